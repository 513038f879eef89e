/- The card of JudgeEnds: a transaction whose parts have all said yes, and acknowledged, is ended; one that a part refused is given up; the asker is told once, and told true; note.sorts starts as the text of the program lays it. -/
import Derived.Test.YtiampehfpgcogaaDoorPk07
set_option linter.unusedVariables false
set_option linter.unusedSimpArgs false
set_option linter.unusedSectionVars false
namespace Go.Proofs.YtiampehfpgcogaaDoor
open Go Go.SX Go.ChangeShapes Go.WideShapes Go.ChangeAt Go.RowKit
theorem flat_all {α β : Type} (f : α → β) : ∀ xs : List α, xs.flatMap (fun x => [f x]) = xs.map f
  | [] => rfl
  | x :: xs => by rw [List.flatMap_cons, List.map_cons, flat_all f xs]; rfl
theorem judgeEndsArgs {H : Type} {enc : TypeId × Value → H} {W : World} (args : List Value) (ha : ∀ (i : Nat) (t : TypeId) (v : Value), Tryd.f4.params.toList[i]? = some t → args[i]? = some v → Arg enc Tryd.prog W t v) (hl : args.length = 4) (hT : TabM (all0 W)) :
    CallsS Tryd.prog 4 args [roM (all0 W)] (fun v _ => v = .bool true) := by
  match args, hl with
  | [v0, v1, v2, v3], _ =>
    obtain ⟨x, rfl, hx⟩ := (ha 0 _ v0 rfl rfl).int Tryd.underlying5
    obtain ⟨a, c, vs, rfl, h1, h2, h3, h4⟩ := (ha 1 _ v1 rfl rfl).list (fun r hr => Rd.op hr) (sz := 2) Tryd.underlying32 (by kernel_rfl) (by decide)
    obtain ⟨y, rfl, hy⟩ := (ha 2 _ v2 rfl rfl).int Tryd.underlying5
    obtain ⟨ao, co, os, rfl, k1, k2, k3, k4⟩ := (ha 3 _ v3 rfl rfl).list (fun r hr => Rd.u8b hr) (sz := 1) Tryd.underlying54 (by kernel_rfl) (by decide)
    rw [flat_all U8] at k3
    exact JudgeEnds_spec x y (u8_wf hx) (u8_wf hy) a c vs ao co os _ h3 (fun o ho => (h4 o ho).2.2.2.1) (Nat.le_trans h1 h2) k3 k4 (Nat.le_trans k1 k2) hT
theorem judgeEndsFn {H : Type} (ds : List (DataW H)) (h : ds.length = 4) : Rows.judgeEndsSpec.fn H ds = { results := [.lit (.bool true)], args := ds } := by
  match ds, h with
  | [d0, d1, d2, d3], _ => rfl
noncomputable def laidWorld (os : Os) : World :=
  { World.holding Tryd.prog os ⟨#[], #[], []⟩ with heap := (World.holding Tryd.prog os ⟨#[], #[], []⟩).heap.modify 0 fun
      | .cells _ t frozen => .cells sortsC.toArray t frozen
      | o => o }
theorem laid_met (os : Os) : laidMet Tryd.prog Rows.judgeEndsRow.laid ((laidWorld os).forCall (fun _ _ => 0) ⟨#[], #[.int .u8 0, .slice none 0 0, .int .u8 0, .slice none 0 0], []⟩).memory :=
  laidMet_of_run' 8 (by kernel_rfl) (by kernel_rfl)
theorem ends_reads (os : Os) {H : Type} (enc : TypeId × Value → H) : ∃ places, DataW.whole enc Tryd.prog ((laidWorld os).forCall (fun _ _ => 0) ⟨#[], #[.int .u8 0, .slice none 0 0, .int .u8 0, .slice none 0 0], []⟩).memory Tryd.f4.params.toList Rows.judgeEndsSpec.vars false #[Value.int .u8 0, .slice none 0 0, .int .u8 0, .slice none 0 0].toList 8 = some ([.lit (.int .u8 0), .nil, .lit (.int .u8 0), .nil], [], places) :=
  ⟨[], by kernel_rfl⟩
set_option maxHeartbeats 1000000 in
set_option maxRecDepth 100000 in
theorem judgeEndsLifted (os : Os) (started : os.Started) (H : Type) (enc : TypeId × Value → H) (F : Stop.Interp) :
    ReturnsInHanded {} Tryd.checked os 4 .any ((OpenSpec.ofChange Rows.judgeEndsSpec).preRow enc Tryd.prog Tryd.f4 Rows.judgeEndsRow.domain false Rows.judgeEndsRow.laid) (((OpenSpec.ofChange Rows.judgeEndsSpec).at F).post enc Tryd.prog Tryd.f4 false true false false) := by
  obtain ⟨places, hx⟩ := ends_reads os enc
  refine returnsInHanded_of_row (C := Tryd.checked) (s := OpenSpec.ofChange Rows.judgeEndsSpec) own started (by kernel_rfl) Tryd.func4
    (witness_row_at (enc := enc) (C := Tryd.checked) false (laidWorld os) #[.int .u8 0, .slice none 0 0, .int .u8 0, .slice none 0 0] rfl (by kernel_rfl) (by kernel_rfl) (by kernel_rfl)
      (OpenSpec.preRow_of_cond 8 hx (by kernel_rfl) (fun k hk => by cases hk) (by kernel_rfl) (laid_met os))) ?_
  intro W base args ds gs before hval hW _ _ _ hL _ _
  exact row_post (f := 4) (F := Tryd.f4) (s := Rows.judgeEndsSpec) (kids_rows (by kernel_rfl) (by kernel_rfl)) (slices_full_of Tryd.prog (by kernel_rfl)) (by kernel_rfl) rfl (fun ds h => judgeEndsFn ds h) rfl Tryd.underlying4 hval hW (fun ha hl => judgeEndsArgs args.toList ha hl (tab_of_laid hL))
theorem judgeEndsSaid : Rows.JudgeEndsSaid :=
  OpenClaim.holds_of_cond 4 Tryd.f4 rfl rfl rfl rfl rfl rfl rfl ⟨rfl, rfl, rfl, rfl, rfl⟩ rfl rfl rfl rfl rfl (by kernel_rfl) Tryd.func4 (by kernel_rfl)
    (of_decide_eq_true (by kernel_rfl)) (by unfold Func.isWrapper; first | (rw [if_pos (by decide +kernel)]; kernel_rfl) | (rw [if_neg (by decide +kernel)]; exact ⟨rfl, rfl⟩))
    (fun os started H enc _ F => by rw [OpenClaim.pre_eq_preRow]; exact judgeEndsLifted os started H enc F)
theorem judgeEnds_plain (f : FuncId) (fn : Func) (hf : Tryd.pinned.checked.prog.funcNamed "armillary/armillarylaw15.JudgeEnds" = some f) (hfn : Tryd.pinned.checked.prog.funcs[f]? = some fn) :
    false = Tryd.pinned.checked.prog.looks [] ∧ ∀ (j : Nat) t, fn.params[j]? = some t → Tryd.pinned.checked.prog.wantsStandIn t = false := by
  obtain rfl : f = 4 := Option.some.inj ((show Tryd.prog.funcNamed "armillary/armillarylaw15.JudgeEnds" = some 4 by kernel_rfl).symm.trans hf) |>.symm
  obtain rfl : fn = Tryd.f4 := (Option.some.inj (Tryd.func4.symm.trans hfn)).symm
  refine ⟨by kernel_rfl, fun j t ht => ?_⟩
  rw [Tryd.params4] at ht
  have hm := Array.mem_of_getElem? ht
  simp only [List.mem_toArray, List.mem_cons, List.not_mem_nil, or_false] at hm
  rcases hm with rfl | rfl | rfl | rfl
  · exact (show Tryd.prog.wantsStandIn 5 = false by kernel_rfl)
  · exact (show Tryd.prog.wantsStandIn 32 = false by kernel_rfl)
  · exact (show Tryd.prog.wantsStandIn 5 = false by kernel_rfl)
  · exact (show Tryd.prog.wantsStandIn 54 = false by kernel_rfl)
theorem judgeEnds_holds : Rows.JudgeEndsCardSaid :=
  Claim7.holds_tied_plain_at .later [] _ _ _ _ judgeEndsSaid (fun _ h => by cases h) (by kernel_rfl) (fun _ h => by cases h) judgeEnds_row_tie rfl ⟨rfl, rfl⟩ (by kernel_rfl) rfl judgeEnds_plain (by kernel_rfl)
#print axioms judgeEnds_holds
end Go.Proofs.YtiampehfpgcogaaDoor
