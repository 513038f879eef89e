/- The row of VaultStays: from the walk to the statement. -/
import Derived.Test.YtieejgbjgcbbjaaStB
import Derived.Test.YtieejgbjgcbbjaaRowVD
set_option linter.unusedVariables false
set_option linter.unusedSimpArgs false
namespace Go.Proofs.Ytieejgbjgcbbjaa
open Go Go.SX Go.ChangeShapes Go.WideShapes Go.ChangeAt Go.RowKit
theorem VaultStaysArgs {H : Type} {enc : TypeId × Value → H} {W : World} (args : List Value) (ha : ∀ (i : Nat) (t : TypeId) (v : Value), Try.f5.params.toList[i]? = some t → args[i]? = some v → Arg enc Try.prog W t v) (hl : args.length = 4) :
    CallsS Try.prog 5 args [roM (all0 W)] (fun v _ => v = .bool true) := by
  match args, hl with
  | [v0, v1, v2, v3], _ =>
    obtain ⟨a, c, vs, rfl, h1, h2, h3, h4⟩ := (ha 0 _ v0 rfl rfl).list (fun r hr => Rd.dv hr) (sz := 8) Try.underlying22 (by kernel_rfl) (by decide)
    obtain ⟨a', c', vs', rfl, g1, g2, g3, g4⟩ := (ha 1 _ v1 rfl rfl).list (fun r hr => Rd.dv hr) (sz := 8) Try.underlying22 (by kernel_rfl) (by decide)
    obtain ⟨x, rfl, hx⟩ := (ha 2 _ v2 rfl rfl).int Try.underlying23
    obtain ⟨ai, ci, ids, rfl, i1, i2, i3, i4⟩ := (ha 3 _ v3 rfl rfl).list (fun r hr => Rd.u64 hr) (sz := 1) Try.underlying37 (by kernel_rfl) (by decide)
    rw [flat_U] at i3
    exact VaultStays_spec a c vs a' c' vs' x ai ci ids _ h3 (fun o ho => ⟨(h4 o ho).1.1, (h4 o ho).1.2.1, (h4 o ho).1.2.2, (h4 o ho).2⟩) (Nat.le_trans h1 h2) g3 (fun o ho => ⟨(g4 o ho).1.1, (g4 o ho).1.2.1, (g4 o ho).1.2.2, (g4 o ho).2⟩) (Nat.le_trans g1 g2) i3 (Nat.le_trans i1 i2)
theorem VaultStaysFn {H : Type} (ds : List (DataW H)) (h : ds.length = 4) : Rows.vaultStaysSpec.fn H ds = { results := [.lit (.bool true)], args := ds } := by
  match ds, h with
  | [v0, v1, v2, v3], _ => rfl
set_option maxHeartbeats 1000000 in
set_option maxRecDepth 100000 in
theorem VaultStaysLifted (os : Os) (started : os.Started) (H : Type) (enc : TypeId × Value → H) :
    ReturnsInHanded {} Try.checked os 5 .any (Rows.vaultStaysSpec.pre6 enc Try.prog Try.f5 Rows.vaultStaysRow.domain false) (Rows.vaultStaysSpec.post enc Try.prog Try.f5 false true false false) := by
  refine returnsInHanded_of_change (C := Try.checked) own started (by kernel_rfl) Try.func5 (ChangeSpec.witness6 (enc := enc) (C := Try.checked) false ⟨#[], #[.slice none 0 0, .slice none 0 0, .int .u64 0, .slice none 0 0], []⟩ 8 (by kernel_rfl) (by kernel_rfl) (by kernel_rfl) (by kernel_rfl)) ?_
  intro W base args ds gs before hval hW _ _
  exact row_post (f := 5) (F := Try.f5) (s := Rows.vaultStaysSpec) (kids_rows (by kernel_rfl) (by kernel_rfl)) (slices_full_of Try.prog (by kernel_rfl)) (by kernel_rfl) rfl (fun ds h => VaultStaysFn ds h) rfl Try.underlying4 hval hW (fun ha hl => VaultStaysArgs args.toList ha hl)
theorem VaultStaysOver : Rows.vaultStaysRow.holds Try.pinned (OpenSpec.ofChange Rows.vaultStaysSpec) :=
  OpenClaim.holds_of_wide 5 Try.f5 rfl rfl rfl rfl rfl rfl rfl ⟨rfl, rfl, rfl, rfl, rfl⟩ rfl rfl rfl rfl rfl (by kernel_rfl) Try.func5 (by kernel_rfl)
    (of_decide_eq_true (by kernel_rfl)) (by unfold Func.isWrapper; first | (rw [if_pos (by decide +kernel)]; kernel_rfl) | (rw [if_neg (by decide +kernel)]; exact ⟨rfl, rfl⟩))
    (fun os started H enc _ => VaultStaysLifted os started H enc)
theorem vaultStays_holds : Rows.VaultStaysSaid := VaultStaysOver
#print axioms vaultStays_holds
end Go.Proofs.Ytieejgbjgcbbjaa
