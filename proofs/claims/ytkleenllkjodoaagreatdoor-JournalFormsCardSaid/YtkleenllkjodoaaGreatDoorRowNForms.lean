/- The card of JournalForms. The listed variables start as the text of the program lays them. -/
import Derived.Test.YtkleenllkjodoaaGreatDoorPk07
set_option linter.unusedVariables false
set_option linter.unusedSimpArgs false
set_option linter.unusedSectionVars false
namespace Go.Proofs.YtkleenllkjodoaaGreatDoor
open Go Go.SX Go.ChangeShapes Go.WideShapes Go.ChangeAt Go.RowKit
theorem own : ownKnob Tryz.prog.godebug = none := by kernel_rfl
theorem journalFormsArgs {H : Type} {enc : TypeId × Value → H} {W : World} (args : List Value) (ha : ∀ (i : Nat) (t : TypeId) (v : Value), Tryz.f5.params.toList[i]? = some t → args[i]? = some v → Arg enc Tryz.prog W t v) (hl : args.length = 3) (hE : ErrM (all0 W)) (hT : NibM (all0 W)) :
    CallsS Tryz.prog 5 args [roM (all0 W)] (fun v _ => v = .bool true) := by
  match args, hl with
  | [v0, v1, v2], _ =>
    obtain ⟨a0, c0, bs0, rfl, g1, g2, g3⟩ := (ha 0 _ v0 rfl rfl).bytes Tryz.underlying31 Tryz.underlying5 (by kernel_rfl)
    obtain ⟨a, c, bs, rfl, h1, h2, h3⟩ := (ha 1 _ v1 rfl rfl).bytes Tryz.underlying31 Tryz.underlying5 (by kernel_rfl)
    obtain ⟨old, rfl⟩ := (ha 2 _ v2 rfl rfl).bool Tryz.underlying4
    exact JournalForms_spec a0 c0 bs0 a c bs old _ [] g3 g1 h3 h1 hE hT
theorem journalFormsFn {H : Type} (ds : List (DataW H)) (h : ds.length = 3) : Rows.journalFormsSpec.fn H ds = { results := [.lit (.bool true)], args := ds } := by
  match ds, h with
  | [d0, d1, d2], _ => rfl
theorem laid_met (os : Os) : laidMet Tryz.prog Rows.journalFormsRow.laid ((World.laidAll Tryz.prog os laidL).forCall (fun _ _ => 0) ⟨#[], #[.slice none 0 0, .slice none 0 0, .bool false], []⟩).memory := laid_all os _
theorem journalForms_reads (os : Os) {H : Type} (enc : TypeId × Value → H) : ∃ places, DataW.whole enc Tryz.prog ((World.laidAll Tryz.prog os laidL).forCall (fun _ _ => 0) ⟨#[], #[.slice none 0 0, .slice none 0 0, .bool false], []⟩).memory Tryz.f5.params.toList Rows.journalFormsSpec.vars false (#[.slice none 0 0, .slice none 0 0, .bool false] : Array Value).toList 8 = some ([.nil, .nil, .lit (.bool false)], [], places) :=
  ⟨[], by kernel_rfl⟩
set_option maxHeartbeats 1000000 in
set_option maxRecDepth 100000 in
theorem journalFormsLifted (os : Os) (started : os.Started) (H : Type) (enc : TypeId × Value → H) (F : Stop.Interp) :
    ReturnsInHanded {} Tryz.checked os 5 .any ((OpenSpec.ofChange Rows.journalFormsSpec).preRow enc Tryz.prog Tryz.f5 Rows.journalFormsRow.domain false Rows.journalFormsRow.laid) (((OpenSpec.ofChange Rows.journalFormsSpec).at F).post enc Tryz.prog Tryz.f5 false true false false) := by
  obtain ⟨places, hx⟩ := journalForms_reads os enc
  refine returnsInHanded_of_row (C := Tryz.checked) (s := OpenSpec.ofChange Rows.journalFormsSpec) own started (by kernel_rfl) Tryz.func5
    (witness_row_at (enc := enc) (C := Tryz.checked) false (World.laidAll Tryz.prog os laidL) #[.slice none 0 0, .slice none 0 0, .bool false] (World.laidAll_os _ _ _) (by kernel_rfl) (by kernel_rfl) (by kernel_rfl)
      (OpenSpec.preRow_of_cond 8 hx (by kernel_rfl) (fun k hk => by cases hk) (by kernel_rfl) (laid_met os))) ?_
  intro W base args ds gs before hval hW _ _ _ hL _ _
  exact row_post (f := 5) (F := Tryz.f5) (s := Rows.journalFormsSpec) (kids_rows (by kernel_rfl) (by kernel_rfl)) (slices_full_of Tryz.prog (by kernel_rfl)) (by kernel_rfl) rfl (fun ds h => journalFormsFn ds h) rfl Tryz.underlying4 hval hW (fun ha hl => journalFormsArgs args.toList ha hl (err_of_laid hL) (nib_of_laid hL))
theorem journalFormsSaid : Rows.JournalFormsSaid :=
  OpenClaim.holds_of_cond 5 Tryz.f5 rfl rfl rfl rfl rfl rfl rfl ⟨rfl, rfl, rfl, rfl, rfl⟩ rfl rfl rfl rfl rfl (by kernel_rfl) Tryz.func5 (by kernel_rfl)
    (of_decide_eq_true (by kernel_rfl)) (by unfold Func.isWrapper; first | (rw [if_pos (by decide +kernel)]; kernel_rfl) | (rw [if_neg (by decide +kernel)]; exact ⟨rfl, rfl⟩))
    (fun os started H enc _ F => by rw [OpenClaim.pre_eq_preRow]; exact journalFormsLifted os started H enc F)
theorem journalForms_plain (f : FuncId) (fn : Func) (hf : Tryz.pinned.checked.prog.funcNamed "armillary/armillarylaw06.JournalForms" = some f) (hfn : Tryz.pinned.checked.prog.funcs[f]? = some fn) :
    true = Tryz.pinned.checked.prog.looks [] ∧ ∀ (j : Nat) t, fn.params[j]? = some t → Tryz.pinned.checked.prog.wantsStandIn t = false := by
  obtain rfl : f = 5 := Option.some.inj ((show Tryz.prog.funcNamed "armillary/armillarylaw06.JournalForms" = some 5 by kernel_rfl).symm.trans hf) |>.symm
  obtain rfl : fn = Tryz.f5 := (Option.some.inj (Tryz.func5.symm.trans hfn)).symm
  refine ⟨by kernel_rfl, fun j t ht => ?_⟩
  rw [Tryz.params5] at ht
  have hm := Array.mem_of_getElem? ht
  simp only [List.mem_toArray, List.mem_cons, List.not_mem_nil, or_false] at hm
  rcases hm with rfl | rfl | rfl
  · exact (show Tryz.prog.wantsStandIn 31 = false by kernel_rfl)
  · exact (show Tryz.prog.wantsStandIn 31 = false by kernel_rfl)
  · exact (show Tryz.prog.wantsStandIn 4 = false by kernel_rfl)
theorem journalForms_holds : Rows.JournalFormsCardSaid :=
  Claim7.holds_tied_plain_at .later [] _ _ _ _ journalFormsSaid (fun _ h => by cases h) (by kernel_rfl) (fun _ h => by cases h) journalForms_row_tie rfl ⟨rfl, rfl⟩ (by kernel_rfl) rfl journalForms_plain (by kernel_rfl)
#print axioms journalForms_holds
end Go.Proofs.YtkleenllkjodoaaGreatDoor
