/- The card of JudgeQuits: for every script what is given up is told to each part and to who asked, and is no trial any more, and what is committed is not given up; note.sorts starts as the text of the program lays it. -/
import Derived.Test.YtiampehfpgcogaaGreatDoorPk10
set_option linter.unusedVariables false
set_option linter.unusedSimpArgs false
set_option linter.unusedSectionVars false
namespace Go.Proofs.YtiampehfpgcogaaGreatDoor
open Go Go.SX Go.ChangeShapes Go.WideShapes Go.ChangeAt Go.RowKit
theorem judgeQuitsArgs {H : Type} {enc : TypeId × Value → H} {W : World} (args : List Value) (ha : ∀ (i : Nat) (t : TypeId) (v : Value), Tryz.f3.params.toList[i]? = some t → args[i]? = some v → Arg enc Tryz.prog W t v) (hl : args.length = 1) (hT : TabM (all0 W)) :
    CallsS Tryz.prog 3 args [roM (all0 W)] (fun v _ => v = .bool true) := by
  match args, hl with
  | [v0], _ =>
    obtain ⟨a, c, vs, rfl, h1, h2, h3, h4⟩ := (ha 0 _ v0 rfl rfl).list (fun r hr => Rd.go hr) (sz := 19) Tryz.underlying22 (by kernel_rfl) (by decide)
    exact JudgeQuits_spec a c vs _ h3 h4 (Nat.le_trans h1 h2) hT
theorem judgeQuitsFn {H : Type} (ds : List (DataW H)) (h : ds.length = 1) : Rows.judgeQuitsSpec.fn H ds = { results := [.lit (.bool true)], args := ds } := by
  match ds, h with
  | [d], _ => rfl
noncomputable def laidWorld (os : Os) : World :=
  { World.holding Tryz.prog os ⟨#[], #[], []⟩ with heap := (World.holding Tryz.prog os ⟨#[], #[], []⟩).heap.modify 0 fun
      | .cells _ t frozen => .cells sortsC.toArray t frozen
      | o => o }
theorem laid_met (os : Os) : laidMet Tryz.prog Rows.judgeQuitsRow.laid ((laidWorld os).forCall (fun _ _ => 0) ⟨#[], #[.slice none 0 0], []⟩).memory :=
  laidMet_of_run' 8 (by kernel_rfl) (by kernel_rfl)
theorem quits_reads (os : Os) {H : Type} (enc : TypeId × Value → H) : ∃ places, DataW.whole enc Tryz.prog ((laidWorld os).forCall (fun _ _ => 0) ⟨#[], #[.slice none 0 0], []⟩).memory Tryz.f3.params.toList Rows.judgeQuitsSpec.vars false #[Value.slice none 0 0].toList 8 = some ([.nil], [], places) :=
  ⟨[], by kernel_rfl⟩
set_option maxHeartbeats 1000000 in
set_option maxRecDepth 100000 in
theorem judgeQuitsLifted (os : Os) (started : os.Started) (H : Type) (enc : TypeId × Value → H) (F : Stop.Interp) :
    ReturnsInHanded {} Tryz.checked os 3 .any ((OpenSpec.ofChange Rows.judgeQuitsSpec).preRow enc Tryz.prog Tryz.f3 Rows.judgeQuitsRow.domain false Rows.judgeQuitsRow.laid) (((OpenSpec.ofChange Rows.judgeQuitsSpec).at F).post enc Tryz.prog Tryz.f3 false true false false) := by
  obtain ⟨places, hx⟩ := quits_reads os enc
  refine returnsInHanded_of_row (C := Tryz.checked) (s := OpenSpec.ofChange Rows.judgeQuitsSpec) own started (by kernel_rfl) Tryz.func3
    (witness_row_at (enc := enc) (C := Tryz.checked) false (laidWorld os) #[.slice none 0 0] rfl (by kernel_rfl) (by kernel_rfl) (by kernel_rfl)
      (OpenSpec.preRow_of_cond 8 hx (by kernel_rfl) (fun k hk => by cases hk) (by kernel_rfl) (laid_met os))) ?_
  intro W base args ds gs before hval hW _ _ _ hL _ _
  exact row_post (f := 3) (F := Tryz.f3) (s := Rows.judgeQuitsSpec) (kids_rows (by kernel_rfl) (by kernel_rfl)) (slices_full_of Tryz.prog (by kernel_rfl)) (by kernel_rfl) rfl (fun ds h => judgeQuitsFn ds h) rfl Tryz.underlying4 hval hW (fun ha hl => judgeQuitsArgs args.toList ha hl (tab_of_laid hL))
theorem judgeQuitsSaid : Rows.JudgeQuitsSaid :=
  OpenClaim.holds_of_cond 3 Tryz.f3 rfl rfl rfl rfl rfl rfl rfl ⟨rfl, rfl, rfl, rfl, rfl⟩ rfl rfl rfl rfl rfl (by kernel_rfl) Tryz.func3 (by kernel_rfl)
    (of_decide_eq_true (by kernel_rfl)) (by unfold Func.isWrapper; first | (rw [if_pos (by decide +kernel)]; kernel_rfl) | (rw [if_neg (by decide +kernel)]; exact ⟨rfl, rfl⟩))
    (fun os started H enc _ F => by rw [OpenClaim.pre_eq_preRow]; exact judgeQuitsLifted os started H enc F)
theorem judgeQuits_plain (f : FuncId) (fn : Func) (hf : Tryz.pinned.checked.prog.funcNamed "armillary/armillarylaw15.JudgeQuits" = some f) (hfn : Tryz.pinned.checked.prog.funcs[f]? = some fn) :
    false = Tryz.pinned.checked.prog.looks [] ∧ ∀ (j : Nat) t, fn.params[j]? = some t → Tryz.pinned.checked.prog.wantsStandIn t = false := by
  obtain rfl : f = 3 := Option.some.inj ((show Tryz.prog.funcNamed "armillary/armillarylaw15.JudgeQuits" = some 3 by kernel_rfl).symm.trans hf) |>.symm
  obtain rfl : fn = Tryz.f3 := (Option.some.inj (Tryz.func3.symm.trans hfn)).symm
  refine ⟨by kernel_rfl, fun j t ht => ?_⟩
  rw [Tryz.params3] at ht
  obtain rfl : t = 22 := by simpa using Array.mem_of_getElem? ht
  exact (show Tryz.prog.wantsStandIn 22 = false by kernel_rfl)
theorem judgeQuits_holds : Rows.JudgeQuitsCardSaid :=
  Claim7.holds_tied_plain_at .later [] _ _ _ _ judgeQuitsSaid (fun _ h => by cases h) (by kernel_rfl) (fun _ h => by cases h) judgeQuits_row_tie rfl ⟨rfl, rfl⟩ (by kernel_rfl) rfl judgeQuits_plain (by kernel_rfl)
#print axioms judgeQuits_holds
end Go.Proofs.YtiampehfpgcogaaGreatDoor
