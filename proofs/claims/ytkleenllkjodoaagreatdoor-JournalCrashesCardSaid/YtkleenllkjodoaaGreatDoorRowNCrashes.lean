/- The card of JournalCrashes. The listed variables start as the text of the program lays them. -/
import Derived.Test.YtkleenllkjodoaaGreatDoorPk08
set_option linter.unusedVariables false
set_option linter.unusedSimpArgs false
set_option linter.unusedSectionVars false
namespace Go.Proofs.YtkleenllkjodoaaGreatDoor
open Go Go.SX Go.ChangeShapes Go.WideShapes Go.ChangeAt Go.RowKit
theorem own : ownKnob Tryz.prog.godebug = none := by kernel_rfl
theorem journalCrashesArgs {H : Type} {enc : TypeId × Value → H} {W : World} (args : List Value) (ha : ∀ (i : Nat) (t : TypeId) (v : Value), Tryz.f6.params.toList[i]? = some t → args[i]? = some v → Arg enc Tryz.prog W t v) (hl : args.length = 4) (hE : ErrM (all0 W)) (hT : NibM (all0 W)) :
    CallsS Tryz.prog 6 args [roM (all0 W)] (fun v _ => v = .bool true) := by
  match args, hl with
  | [v0, v1, v2, v3], _ =>
    obtain ⟨a0, c0, os, rfl, g1, g2, g3, g4⟩ := (ha 0 _ v0 rfl rfl).list (fun r hr => Rd.jo hr) (sz := 3) Tryz.underlying58 (by kernel_rfl) (by decide)
    obtain ⟨n1, rfl, w1⟩ := (ha 1 _ v1 rfl rfl).int Tryz.underlying5
    obtain ⟨n2, rfl, w2⟩ := (ha 2 _ v2 rfl rfl).int Tryz.underlying5
    obtain ⟨a, c, ks, rfl, h1, h2, h3, h4⟩ := (ha 3 _ v3 rfl rfl).list (fun r hr => Rd.i64n hr) (sz := 1) Tryz.underlying59 (by kernel_rfl) (by decide)
    rw [flatI] at h3
    have b1 := bounds_u8 w1
    have b2 := bounds_u8 w2
    obtain ⟨r1, rfl⟩ := Int.eq_ofNat_of_zero_le b1.1
    obtain ⟨r2, rfl⟩ := Int.eq_ofNat_of_zero_le b2.1
    exact JournalCrashes_spec a0 c0 os r1 r2 a c ks _ [] g3 g4 (Nat.le_trans g1 g2) (by omega) (by omega) h3 h1 hE hT
theorem journalCrashesFn {H : Type} (ds : List (DataW H)) (h : ds.length = 4) : Rows.journalCrashesSpec.fn H ds = { results := [.lit (.bool true)], args := ds } := by
  match ds, h with
  | [d0, d1, d2, d3], _ => rfl
theorem laid_met (os : Os) : laidMet Tryz.prog Rows.journalCrashesRow.laid ((World.laidAll Tryz.prog os laidL).forCall (fun _ _ => 0) ⟨#[], #[.slice none 0 0, .int .u8 0, .int .u8 0, .slice none 0 0], []⟩).memory := laid_all os _
theorem journalCrashes_reads (os : Os) {H : Type} (enc : TypeId × Value → H) : ∃ places, DataW.whole enc Tryz.prog ((World.laidAll Tryz.prog os laidL).forCall (fun _ _ => 0) ⟨#[], #[.slice none 0 0, .int .u8 0, .int .u8 0, .slice none 0 0], []⟩).memory Tryz.f6.params.toList Rows.journalCrashesSpec.vars false (#[.slice none 0 0, .int .u8 0, .int .u8 0, .slice none 0 0] : Array Value).toList 8 = some ([.nil, .lit (.int .u8 0), .lit (.int .u8 0), .nil], [], places) :=
  ⟨[], by kernel_rfl⟩
set_option maxHeartbeats 1000000 in
set_option maxRecDepth 100000 in
theorem journalCrashesLifted (os : Os) (started : os.Started) (H : Type) (enc : TypeId × Value → H) (F : Stop.Interp) :
    ReturnsInHanded {} Tryz.checked os 6 .any ((OpenSpec.ofChange Rows.journalCrashesSpec).preRow enc Tryz.prog Tryz.f6 Rows.journalCrashesRow.domain false Rows.journalCrashesRow.laid) (((OpenSpec.ofChange Rows.journalCrashesSpec).at F).post enc Tryz.prog Tryz.f6 false true false false) := by
  obtain ⟨places, hx⟩ := journalCrashes_reads os enc
  refine returnsInHanded_of_row (C := Tryz.checked) (s := OpenSpec.ofChange Rows.journalCrashesSpec) own started (by kernel_rfl) Tryz.func6
    (witness_row_at (enc := enc) (C := Tryz.checked) false (World.laidAll Tryz.prog os laidL) #[.slice none 0 0, .int .u8 0, .int .u8 0, .slice none 0 0] (World.laidAll_os _ _ _) (by kernel_rfl) (by kernel_rfl) (by kernel_rfl)
      (OpenSpec.preRow_of_cond 8 hx (by kernel_rfl) (fun k hk => by cases hk) (by kernel_rfl) (laid_met os))) ?_
  intro W base args ds gs before hval hW _ _ _ hL _ _
  exact row_post (f := 6) (F := Tryz.f6) (s := Rows.journalCrashesSpec) (kids_rows (by kernel_rfl) (by kernel_rfl)) (slices_full_of Tryz.prog (by kernel_rfl)) (by kernel_rfl) rfl (fun ds h => journalCrashesFn ds h) rfl Tryz.underlying4 hval hW (fun ha hl => journalCrashesArgs args.toList ha hl (err_of_laid hL) (nib_of_laid hL))
theorem journalCrashesSaid : Rows.JournalCrashesSaid :=
  OpenClaim.holds_of_cond 6 Tryz.f6 rfl rfl rfl rfl rfl rfl rfl ⟨rfl, rfl, rfl, rfl, rfl⟩ rfl rfl rfl rfl rfl (by kernel_rfl) Tryz.func6 (by kernel_rfl)
    (of_decide_eq_true (by kernel_rfl)) (by unfold Func.isWrapper; first | (rw [if_pos (by decide +kernel)]; kernel_rfl) | (rw [if_neg (by decide +kernel)]; exact ⟨rfl, rfl⟩))
    (fun os started H enc _ F => by rw [OpenClaim.pre_eq_preRow]; exact journalCrashesLifted os started H enc F)
theorem journalCrashes_plain (f : FuncId) (fn : Func) (hf : Tryz.pinned.checked.prog.funcNamed "armillary/armillarylaw06.JournalCrashes" = some f) (hfn : Tryz.pinned.checked.prog.funcs[f]? = some fn) :
    true = Tryz.pinned.checked.prog.looks [] ∧ ∀ (j : Nat) t, fn.params[j]? = some t → Tryz.pinned.checked.prog.wantsStandIn t = false := by
  obtain rfl : f = 6 := Option.some.inj ((show Tryz.prog.funcNamed "armillary/armillarylaw06.JournalCrashes" = some 6 by kernel_rfl).symm.trans hf) |>.symm
  obtain rfl : fn = Tryz.f6 := (Option.some.inj (Tryz.func6.symm.trans hfn)).symm
  refine ⟨by kernel_rfl, fun j t ht => ?_⟩
  rw [Tryz.params6] at ht
  have hm := Array.mem_of_getElem? ht
  simp only [List.mem_toArray, List.mem_cons, List.not_mem_nil, or_false] at hm
  rcases hm with rfl | rfl | rfl | rfl
  · exact (show Tryz.prog.wantsStandIn 58 = false by kernel_rfl)
  · exact (show Tryz.prog.wantsStandIn 5 = false by kernel_rfl)
  · exact (show Tryz.prog.wantsStandIn 5 = false by kernel_rfl)
  · exact (show Tryz.prog.wantsStandIn 59 = false by kernel_rfl)
theorem journalCrashes_holds : Rows.JournalCrashesCardSaid :=
  Claim7.holds_tied_plain_at .later [] _ _ _ _ journalCrashesSaid (fun _ h => by cases h) (by kernel_rfl) (fun _ h => by cases h) journalCrashes_row_tie rfl ⟨rfl, rfl⟩ (by kernel_rfl) rfl journalCrashes_plain (by kernel_rfl)
#print axioms journalCrashes_holds
end Go.Proofs.YtkleenllkjodoaaGreatDoor
