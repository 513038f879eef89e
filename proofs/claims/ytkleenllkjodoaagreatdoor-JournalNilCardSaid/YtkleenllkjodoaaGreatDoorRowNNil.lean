/- The card of JournalNil. The listed variables start as the text of the program lays them. -/
import Derived.Test.YtkleenllkjodoaaGreatDoorPk07
set_option linter.unusedVariables false
set_option linter.unusedSimpArgs false
set_option linter.unusedSectionVars false
namespace Go.Proofs.YtkleenllkjodoaaGreatDoor
open Go Go.SX Go.ChangeShapes Go.WideShapes Go.ChangeAt Go.RowKit
theorem own : ownKnob Tryz.prog.godebug = none := by kernel_rfl
theorem journalNilArgs {H : Type} {enc : TypeId × Value → H} {W : World} (args : List Value) (ha : ∀ (i : Nat) (t : TypeId) (v : Value), Tryz.f8.params.toList[i]? = some t → args[i]? = some v → Arg enc Tryz.prog W t v) (hl : args.length = 1) (hE : ErrM (all0 W)) (hT : NibM (all0 W)) :
    CallsS Tryz.prog 8 args [roM (all0 W)] (fun v _ => v = .bool true) := by
  match args, hl with
  | [v0], _ =>
    obtain ⟨a, c, bs, rfl, h1, h2, h3⟩ := (ha 0 _ v0 rfl rfl).bytes Tryz.underlying31 Tryz.underlying5 (by kernel_rfl)
    exact JournalNil_spec a c bs _ [] h3 h1 hE hT
theorem journalNilFn {H : Type} (ds : List (DataW H)) (h : ds.length = 1) : Rows.journalNilSpec.fn H ds = { results := [.lit (.bool true)], args := ds } := by
  match ds, h with
  | [d], _ => rfl
theorem laid_met (os : Os) : laidMet Tryz.prog Rows.journalNilRow.laid ((World.laidAll Tryz.prog os laidL).forCall (fun _ _ => 0) ⟨#[], #[.slice none 0 0], []⟩).memory := laid_all os _
theorem journalNil_reads (os : Os) {H : Type} (enc : TypeId × Value → H) : ∃ places, DataW.whole enc Tryz.prog ((World.laidAll Tryz.prog os laidL).forCall (fun _ _ => 0) ⟨#[], #[.slice none 0 0], []⟩).memory Tryz.f8.params.toList Rows.journalNilSpec.vars false (#[.slice none 0 0] : Array Value).toList 8 = some ([.nil], [], places) :=
  ⟨[], by kernel_rfl⟩
set_option maxHeartbeats 1000000 in
set_option maxRecDepth 100000 in
theorem journalNilLifted (os : Os) (started : os.Started) (H : Type) (enc : TypeId × Value → H) (F : Stop.Interp) :
    ReturnsInHanded {} Tryz.checked os 8 .any ((OpenSpec.ofChange Rows.journalNilSpec).preRow enc Tryz.prog Tryz.f8 Rows.journalNilRow.domain false Rows.journalNilRow.laid) (((OpenSpec.ofChange Rows.journalNilSpec).at F).post enc Tryz.prog Tryz.f8 false true false false) := by
  obtain ⟨places, hx⟩ := journalNil_reads os enc
  refine returnsInHanded_of_row (C := Tryz.checked) (s := OpenSpec.ofChange Rows.journalNilSpec) own started (by kernel_rfl) Tryz.func8
    (witness_row_at (enc := enc) (C := Tryz.checked) false (World.laidAll Tryz.prog os laidL) #[.slice none 0 0] (World.laidAll_os _ _ _) (by kernel_rfl) (by kernel_rfl) (by kernel_rfl)
      (OpenSpec.preRow_of_cond 8 hx (by kernel_rfl) (fun k hk => by cases hk) (by kernel_rfl) (laid_met os))) ?_
  intro W base args ds gs before hval hW _ _ _ hL _ _
  exact row_post (f := 8) (F := Tryz.f8) (s := Rows.journalNilSpec) (kids_rows (by kernel_rfl) (by kernel_rfl)) (slices_full_of Tryz.prog (by kernel_rfl)) (by kernel_rfl) rfl (fun ds h => journalNilFn ds h) rfl Tryz.underlying4 hval hW (fun ha hl => journalNilArgs args.toList ha hl (err_of_laid hL) (nib_of_laid hL))
theorem journalNilSaid : Rows.JournalNilSaid :=
  OpenClaim.holds_of_cond 8 Tryz.f8 rfl rfl rfl rfl rfl rfl rfl ⟨rfl, rfl, rfl, rfl, rfl⟩ rfl rfl rfl rfl rfl (by kernel_rfl) Tryz.func8 (by kernel_rfl)
    (of_decide_eq_true (by kernel_rfl)) (by unfold Func.isWrapper; first | (rw [if_pos (by decide +kernel)]; kernel_rfl) | (rw [if_neg (by decide +kernel)]; exact ⟨rfl, rfl⟩))
    (fun os started H enc _ F => by rw [OpenClaim.pre_eq_preRow]; exact journalNilLifted os started H enc F)
theorem journalNil_plain (f : FuncId) (fn : Func) (hf : Tryz.pinned.checked.prog.funcNamed "armillary/armillarylaw06.JournalNil" = some f) (hfn : Tryz.pinned.checked.prog.funcs[f]? = some fn) :
    true = Tryz.pinned.checked.prog.looks [] ∧ ∀ (j : Nat) t, fn.params[j]? = some t → Tryz.pinned.checked.prog.wantsStandIn t = false := by
  obtain rfl : f = 8 := Option.some.inj ((show Tryz.prog.funcNamed "armillary/armillarylaw06.JournalNil" = some 8 by kernel_rfl).symm.trans hf) |>.symm
  obtain rfl : fn = Tryz.f8 := (Option.some.inj (Tryz.func8.symm.trans hfn)).symm
  refine ⟨by kernel_rfl, fun j t ht => ?_⟩
  rw [Tryz.params8] at ht
  have hm := Array.mem_of_getElem? ht
  simp only [List.mem_toArray, List.mem_cons, List.not_mem_nil, or_false] at hm
  rcases hm with rfl
  exact (show Tryz.prog.wantsStandIn 31 = false by kernel_rfl)
theorem journalNil_holds : Rows.JournalNilCardSaid :=
  Claim7.holds_tied_plain_at .later [] _ _ _ _ journalNilSaid (fun _ h => by cases h) (by kernel_rfl) (fun _ h => by cases h) journalNil_row_tie rfl ⟨rfl, rfl⟩ (by kernel_rfl) rfl journalNil_plain (by kernel_rfl)
#print axioms journalNil_holds
end Go.Proofs.YtkleenllkjodoaaGreatDoor
