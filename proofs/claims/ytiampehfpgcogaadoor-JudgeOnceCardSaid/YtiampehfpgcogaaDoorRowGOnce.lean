/- The card of JudgeOnce: for every script a transaction that was committed is never given up nor committed again, a commit is planned only when all its parts have said yes, stamps rise by one, and a batch has one stamp; note.sorts starts as the text of the program lays it. -/
import Derived.Test.YtiampehfpgcogaaDoorPk07
set_option linter.unusedVariables false
set_option linter.unusedSimpArgs false
set_option linter.unusedSectionVars false
namespace Go.Proofs.YtiampehfpgcogaaDoor
open Go Go.SX Go.ChangeShapes Go.WideShapes Go.ChangeAt Go.RowKit
theorem judgeOnceArgs {H : Type} {enc : TypeId × Value → H} {W : World} (args : List Value) (ha : ∀ (i : Nat) (t : TypeId) (v : Value), Tryd.f3.params.toList[i]? = some t → args[i]? = some v → Arg enc Tryd.prog W t v) (hl : args.length = 1) (hT : TabM (all0 W)) :
    CallsS Tryd.prog 3 args [roM (all0 W)] (fun v _ => v = .bool true) := by
  match args, hl with
  | [v0], _ =>
    obtain ⟨a, c, vs, rfl, h1, h2, h3, h4⟩ := (ha 0 _ v0 rfl rfl).list (fun r hr => Rd.go hr) (sz := 19) Tryd.underlying22 (by kernel_rfl) (by decide)
    exact JudgeOnce_spec a c vs _ h3 h4 (Nat.le_trans h1 h2) hT
theorem judgeOnceFn {H : Type} (ds : List (DataW H)) (h : ds.length = 1) : Rows.judgeOnceSpec.fn H ds = { results := [.lit (.bool true)], args := ds } := by
  match ds, h with
  | [d], _ => rfl
noncomputable def laidWorld (os : Os) : World :=
  { World.holding Tryd.prog os ⟨#[], #[], []⟩ with heap := (World.holding Tryd.prog os ⟨#[], #[], []⟩).heap.modify 0 fun
      | .cells _ t frozen => .cells sortsC.toArray t frozen
      | o => o }
theorem laid_met (os : Os) : laidMet Tryd.prog Rows.judgeOnceRow.laid ((laidWorld os).forCall (fun _ _ => 0) ⟨#[], #[.slice none 0 0], []⟩).memory :=
  laidMet_of_run' 8 (by kernel_rfl) (by kernel_rfl)
theorem once_reads (os : Os) {H : Type} (enc : TypeId × Value → H) : ∃ places, DataW.whole enc Tryd.prog ((laidWorld os).forCall (fun _ _ => 0) ⟨#[], #[.slice none 0 0], []⟩).memory Tryd.f3.params.toList Rows.judgeOnceSpec.vars false #[Value.slice none 0 0].toList 8 = some ([.nil], [], places) :=
  ⟨[], by kernel_rfl⟩
set_option maxHeartbeats 1000000 in
set_option maxRecDepth 100000 in
theorem judgeOnceLifted (os : Os) (started : os.Started) (H : Type) (enc : TypeId × Value → H) (F : Stop.Interp) :
    ReturnsInHanded {} Tryd.checked os 3 .any ((OpenSpec.ofChange Rows.judgeOnceSpec).preRow enc Tryd.prog Tryd.f3 Rows.judgeOnceRow.domain false Rows.judgeOnceRow.laid) (((OpenSpec.ofChange Rows.judgeOnceSpec).at F).post enc Tryd.prog Tryd.f3 false true false false) := by
  obtain ⟨places, hx⟩ := once_reads os enc
  refine returnsInHanded_of_row (C := Tryd.checked) (s := OpenSpec.ofChange Rows.judgeOnceSpec) own started (by kernel_rfl) Tryd.func3
    (witness_row_at (enc := enc) (C := Tryd.checked) false (laidWorld os) #[.slice none 0 0] rfl (by kernel_rfl) (by kernel_rfl) (by kernel_rfl)
      (OpenSpec.preRow_of_cond 8 hx (by kernel_rfl) (fun k hk => by cases hk) (by kernel_rfl) (laid_met os))) ?_
  intro W base args ds gs before hval hW _ _ _ hL _ _
  exact row_post (f := 3) (F := Tryd.f3) (s := Rows.judgeOnceSpec) (kids_rows (by kernel_rfl) (by kernel_rfl)) (slices_full_of Tryd.prog (by kernel_rfl)) (by kernel_rfl) rfl (fun ds h => judgeOnceFn ds h) rfl Tryd.underlying4 hval hW (fun ha hl => judgeOnceArgs args.toList ha hl (tab_of_laid hL))
theorem judgeOnceSaid : Rows.JudgeOnceSaid :=
  OpenClaim.holds_of_cond 3 Tryd.f3 rfl rfl rfl rfl rfl rfl rfl ⟨rfl, rfl, rfl, rfl, rfl⟩ rfl rfl rfl rfl rfl (by kernel_rfl) Tryd.func3 (by kernel_rfl)
    (of_decide_eq_true (by kernel_rfl)) (by unfold Func.isWrapper; first | (rw [if_pos (by decide +kernel)]; kernel_rfl) | (rw [if_neg (by decide +kernel)]; exact ⟨rfl, rfl⟩))
    (fun os started H enc _ F => by rw [OpenClaim.pre_eq_preRow]; exact judgeOnceLifted os started H enc F)
theorem judgeOnce_plain (f : FuncId) (fn : Func) (hf : Tryd.pinned.checked.prog.funcNamed "armillary/armillarylaw15.JudgeOnce" = some f) (hfn : Tryd.pinned.checked.prog.funcs[f]? = some fn) :
    false = Tryd.pinned.checked.prog.looks [] ∧ ∀ (j : Nat) t, fn.params[j]? = some t → Tryd.pinned.checked.prog.wantsStandIn t = false := by
  obtain rfl : f = 3 := Option.some.inj ((show Tryd.prog.funcNamed "armillary/armillarylaw15.JudgeOnce" = some 3 by kernel_rfl).symm.trans hf) |>.symm
  obtain rfl : fn = Tryd.f3 := (Option.some.inj (Tryd.func3.symm.trans hfn)).symm
  refine ⟨by kernel_rfl, fun j t ht => ?_⟩
  rw [Tryd.params3] at ht
  obtain rfl : t = 22 := by simpa using Array.mem_of_getElem? ht
  exact (show Tryd.prog.wantsStandIn 22 = false by kernel_rfl)
theorem judgeOnce_holds : Rows.JudgeOnceCardSaid :=
  Claim7.holds_tied_plain_at .later [] _ _ _ _ judgeOnceSaid (fun _ h => by cases h) (by kernel_rfl) (fun _ h => by cases h) judgeOnce_row_tie rfl ⟨rfl, rfl⟩ (by kernel_rfl) rfl judgeOnce_plain (by kernel_rfl)
#print axioms judgeOnce_holds
end Go.Proofs.YtiampehfpgcogaaDoor
