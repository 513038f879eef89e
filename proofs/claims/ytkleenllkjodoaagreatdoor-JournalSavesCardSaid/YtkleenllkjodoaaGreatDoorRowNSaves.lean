/- The card of JournalSaves. The listed variables start as the text of the program lays them. -/
import Derived.Test.YtkleenllkjodoaaGreatDoorPk07
set_option linter.unusedVariables false
set_option linter.unusedSimpArgs false
set_option linter.unusedSectionVars false
namespace Go.Proofs.YtkleenllkjodoaaGreatDoor
open Go Go.SX Go.ChangeShapes Go.WideShapes Go.ChangeAt Go.RowKit
theorem own : ownKnob Tryz.prog.godebug = none := by kernel_rfl
theorem journalSavesArgs {H : Type} {enc : TypeId × Value → H} {W : World} (args : List Value) (ha : ∀ (i : Nat) (t : TypeId) (v : Value), Tryz.f7.params.toList[i]? = some t → args[i]? = some v → Arg enc Tryz.prog W t v) (hl : args.length = 2) (hE : ErrM (all0 W)) (hT : NibM (all0 W)) :
    CallsS Tryz.prog 7 args [roM (all0 W)] (fun v _ => v = .bool true) := by
  match args, hl with
  | [v0, v1], _ =>
    obtain ⟨a0, c0, ws, rfl, g1, g2, g3, g4⟩ := (ha 0 _ v0 rfl rfl).list (fun r hr => Rd.yb hr) (sz := 1) Tryz.underlying23 (by kernel_rfl) (by decide)
    obtain ⟨a, c, vs, rfl, h1, h2, h3, h4⟩ := (ha 1 _ v1 rfl rfl).list (fun r hr => Rd.yb hr) (sz := 1) Tryz.underlying23 (by kernel_rfl) (by decide)
    exact JournalSaves_spec a0 c0 ws a c vs _ [] g3 g4 (Nat.le_trans g1 g2) h3 h4 (Nat.le_trans h1 h2) hE hT
theorem journalSavesFn {H : Type} (ds : List (DataW H)) (h : ds.length = 2) : Rows.journalSavesSpec.fn H ds = { results := [.lit (.bool true)], args := ds } := by
  match ds, h with
  | [d0, d1], _ => rfl
theorem laid_met (os : Os) : laidMet Tryz.prog Rows.journalSavesRow.laid ((World.laidAll Tryz.prog os laidL).forCall (fun _ _ => 0) ⟨#[], #[.slice none 0 0, .slice none 0 0], []⟩).memory := laid_all os _
theorem journalSaves_reads (os : Os) {H : Type} (enc : TypeId × Value → H) : ∃ places, DataW.whole enc Tryz.prog ((World.laidAll Tryz.prog os laidL).forCall (fun _ _ => 0) ⟨#[], #[.slice none 0 0, .slice none 0 0], []⟩).memory Tryz.f7.params.toList Rows.journalSavesSpec.vars false (#[.slice none 0 0, .slice none 0 0] : Array Value).toList 8 = some ([.nil, .nil], [], places) :=
  ⟨[], by kernel_rfl⟩
set_option maxHeartbeats 1000000 in
set_option maxRecDepth 100000 in
theorem journalSavesLifted (os : Os) (started : os.Started) (H : Type) (enc : TypeId × Value → H) (F : Stop.Interp) :
    ReturnsInHanded {} Tryz.checked os 7 .any ((OpenSpec.ofChange Rows.journalSavesSpec).preRow enc Tryz.prog Tryz.f7 Rows.journalSavesRow.domain false Rows.journalSavesRow.laid) (((OpenSpec.ofChange Rows.journalSavesSpec).at F).post enc Tryz.prog Tryz.f7 false true false false) := by
  obtain ⟨places, hx⟩ := journalSaves_reads os enc
  refine returnsInHanded_of_row (C := Tryz.checked) (s := OpenSpec.ofChange Rows.journalSavesSpec) own started (by kernel_rfl) Tryz.func7
    (witness_row_at (enc := enc) (C := Tryz.checked) false (World.laidAll Tryz.prog os laidL) #[.slice none 0 0, .slice none 0 0] (World.laidAll_os _ _ _) (by kernel_rfl) (by kernel_rfl) (by kernel_rfl)
      (OpenSpec.preRow_of_cond 8 hx (by kernel_rfl) (fun k hk => by cases hk) (by kernel_rfl) (laid_met os))) ?_
  intro W base args ds gs before hval hW _ _ _ hL _ _
  exact row_post (f := 7) (F := Tryz.f7) (s := Rows.journalSavesSpec) (kids_rows (by kernel_rfl) (by kernel_rfl)) (slices_full_of Tryz.prog (by kernel_rfl)) (by kernel_rfl) rfl (fun ds h => journalSavesFn ds h) rfl Tryz.underlying4 hval hW (fun ha hl => journalSavesArgs args.toList ha hl (err_of_laid hL) (nib_of_laid hL))
theorem journalSavesSaid : Rows.JournalSavesSaid :=
  OpenClaim.holds_of_cond 7 Tryz.f7 rfl rfl rfl rfl rfl rfl rfl ⟨rfl, rfl, rfl, rfl, rfl⟩ rfl rfl rfl rfl rfl (by kernel_rfl) Tryz.func7 (by kernel_rfl)
    (of_decide_eq_true (by kernel_rfl)) (by unfold Func.isWrapper; first | (rw [if_pos (by decide +kernel)]; kernel_rfl) | (rw [if_neg (by decide +kernel)]; exact ⟨rfl, rfl⟩))
    (fun os started H enc _ F => by rw [OpenClaim.pre_eq_preRow]; exact journalSavesLifted os started H enc F)
theorem journalSaves_plain (f : FuncId) (fn : Func) (hf : Tryz.pinned.checked.prog.funcNamed "armillary/armillarylaw06.JournalSaves" = some f) (hfn : Tryz.pinned.checked.prog.funcs[f]? = some fn) :
    true = Tryz.pinned.checked.prog.looks [] ∧ ∀ (j : Nat) t, fn.params[j]? = some t → Tryz.pinned.checked.prog.wantsStandIn t = false := by
  obtain rfl : f = 7 := Option.some.inj ((show Tryz.prog.funcNamed "armillary/armillarylaw06.JournalSaves" = some 7 by kernel_rfl).symm.trans hf) |>.symm
  obtain rfl : fn = Tryz.f7 := (Option.some.inj (Tryz.func7.symm.trans hfn)).symm
  refine ⟨by kernel_rfl, fun j t ht => ?_⟩
  rw [Tryz.params7] at ht
  have hm := Array.mem_of_getElem? ht
  simp only [List.mem_toArray, List.mem_cons, List.not_mem_nil, or_false] at hm
  rcases hm with rfl | rfl
  · exact (show Tryz.prog.wantsStandIn 23 = false by kernel_rfl)
  · exact (show Tryz.prog.wantsStandIn 23 = false by kernel_rfl)
theorem journalSaves_holds : Rows.JournalSavesCardSaid :=
  Claim7.holds_tied_plain_at .later [] _ _ _ _ journalSavesSaid (fun _ h => by cases h) (by kernel_rfl) (fun _ h => by cases h) journalSaves_row_tie rfl ⟨rfl, rfl⟩ (by kernel_rfl) rfl journalSaves_plain (by kernel_rfl)
#print axioms journalSaves_holds
end Go.Proofs.YtkleenllkjodoaaGreatDoor
