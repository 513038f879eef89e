/- The row of VaultSweeps: from the walk to the statement. -/
import Derived.Test.YtieejgbjgcbbjaaSwB
import Derived.Test.YtieejgbjgcbbjaaRowVD
import Derived.Test.YtieejgbjgcbbjaaRowW
set_option linter.unusedVariables false
set_option linter.unusedSimpArgs false
namespace Go.Proofs.Ytieejgbjgcbbjaa
open Go Go.SX Go.ChangeShapes Go.WideShapes Go.ChangeAt Go.RowKit
theorem VaultSweepsArgs {H : Type} {enc : TypeId × Value → H} {W : World} (args : List Value) (ha : ∀ (i : Nat) (t : TypeId) (v : Value), Try.f6.params.toList[i]? = some t → args[i]? = some v → Arg enc Try.prog W t v) (hb : ∀ (i : Nat) (t e : TypeId) (v : Value) (a : Option Addr) (l c : Nat), Try.f6.params.toList[i]? = some t → args[i]? = some v → Try.prog.underlying t = some (.slice e) → v = .slice a l c → l * Try.prog.bytesOf e ≤ reachBytes) (hl : args.length = 3) :
    CallsS Try.prog 6 args [roM (all0 W)] (fun v _ => v = .bool true) := by
  match args, hl with
  | [v0, v1, v2], _ =>
    obtain ⟨a, c, vs, rfl, h1, h2, h3, h4⟩ := (ha 0 _ v0 rfl rfl).list (fun r hr => Rd.dv hr) (sz := 8) Try.underlying22 (by kernel_rfl) (by decide)
    obtain ⟨x, rfl, hx⟩ := (ha 1 _ v1 rfl rfl).int Try.underlying23
    obtain ⟨ai, ci, ids, rfl, i1, i2, i3, i4⟩ := (ha 2 _ v2 rfl rfl).list (fun r hr => Rd.u64 hr) (sz := 1) Try.underlying37 (by kernel_rfl) (by decide)
    rw [flat_U] at i3
    have hq := hb 2 _ _ _ _ _ _ rfl rfl Try.underlying37 rfl
    rw [show Try.prog.bytesOf 23 = 8 by kernel_rfl, show reachBytes = 140737488351232 by decide] at hq
    exact VaultSweeps_spec a c vs x ai ci ids _ h3 (fun o ho => ⟨(h4 o ho).1.1, (h4 o ho).1.2.1, (h4 o ho).1.2.2, (h4 o ho).2⟩) (Nat.le_trans h1 h2) i3 hq (fun y hy => (i4 y hy).1) (u64_wf hx).1
theorem VaultSweepsFn {H : Type} (ds : List (DataW H)) (h : ds.length = 3) : Rows.vaultSweepsSpec.fn H ds = { results := [.lit (.bool true)], args := ds } := by
  match ds, h with
  | [v0, v1, v2], _ => rfl
set_option maxHeartbeats 1000000 in
set_option maxRecDepth 100000 in
theorem VaultSweepsLifted (os : Os) (started : os.Started) (H : Type) (enc : TypeId × Value → H) :
    ReturnsInHanded {} Try.checked os 6 .any (Rows.vaultSweepsSpec.pre6 enc Try.prog Try.f6 Rows.vaultSweepsRow.domain false) (Rows.vaultSweepsSpec.post enc Try.prog Try.f6 false true false false) := by
  refine returnsInHanded_of_change_shaped (C := Try.checked) own started (by kernel_rfl) Try.func6 (ChangeSpec.witness6 (enc := enc) (C := Try.checked) false ⟨#[], #[.slice none 0 0, .int .u64 0, .slice none 0 0], []⟩ 8 (by kernel_rfl) (by kernel_rfl) (by kernel_rfl) (by kernel_rfl)) ?_
  intro W base args ds gs before hval hW _ hwt _ _
  exact row_postW (f := 6) (F := Try.f6) (s := Rows.vaultSweepsSpec) (kids_rows (by kernel_rfl) (by kernel_rfl)) (slices_full_of Try.prog (by kernel_rfl)) (by kernel_rfl) rfl (fun ds h => VaultSweepsFn ds h) rfl Try.underlying4 hval hW hwt (fun ha hb hl => VaultSweepsArgs args.toList ha hb hl)
theorem VaultSweepsOver : Rows.vaultSweepsRow.holds Try.pinned (OpenSpec.ofChange Rows.vaultSweepsSpec) :=
  OpenClaim.holds_of_wide 6 Try.f6 rfl rfl rfl rfl rfl rfl rfl ⟨rfl, rfl, rfl, rfl, rfl⟩ rfl rfl rfl rfl rfl (by kernel_rfl) Try.func6 (by kernel_rfl)
    (of_decide_eq_true (by kernel_rfl)) (by unfold Func.isWrapper; first | (rw [if_pos (by decide +kernel)]; kernel_rfl) | (rw [if_neg (by decide +kernel)]; exact ⟨rfl, rfl⟩))
    (fun os started H enc _ => VaultSweepsLifted os started H enc)
theorem vaultSweeps_holds : Rows.VaultSweepsSaid := VaultSweepsOver
#print axioms vaultSweeps_holds
end Go.Proofs.Ytieejgbjgcbbjaa
