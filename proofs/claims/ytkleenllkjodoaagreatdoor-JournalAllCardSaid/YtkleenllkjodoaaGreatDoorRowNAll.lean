/- The card of JournalAll. The listed variables start as the text of the program lays them. -/
import Derived.Test.YtkleenllkjodoaaGreatDoorPk07
set_option linter.unusedVariables false
set_option linter.unusedSimpArgs false
set_option linter.unusedSectionVars false
namespace Go.Proofs.YtkleenllkjodoaaGreatDoor
open Go Go.SX Go.ChangeShapes Go.WideShapes Go.ChangeAt Go.RowKit
theorem own : ownKnob Tryz.prog.godebug = none := by kernel_rfl
theorem journalAllArgs {H : Type} {enc : TypeId × Value → H} {W : World} (args : List Value) (ha : ∀ (i : Nat) (t : TypeId) (v : Value), Tryz.f3.params.toList[i]? = some t → args[i]? = some v → Arg enc Tryz.prog W t v) (hl : args.length = 3) (hE : ErrM (all0 W)) (hT : NibM (all0 W)) :
    CallsS Tryz.prog 3 args [roM (all0 W)] (fun v _ => v = .bool true) := by
  match args, hl with
  | [v0, v1, v2], _ =>
    obtain ⟨n0, rfl, w0⟩ := (ha 0 _ v0 rfl rfl).int Tryz.underlying22
    obtain ⟨a, c, vs, rfl, h1, h2, h3, h4⟩ := (ha 1 _ v1 rfl rfl).list (fun r hr => Rd.yb hr) (sz := 1) Tryz.underlying23 (by kernel_rfl) (by decide)
    obtain ⟨n2, rfl, w2⟩ := (ha 2 _ v2 rfl rfl).int Tryz.underlying5
    have b0 := bounds_u16 w0
    have b2 := bounds_u8 w2
    obtain ⟨r0, rfl⟩ := Int.eq_ofNat_of_zero_le b0.1
    obtain ⟨r2, rfl⟩ := Int.eq_ofNat_of_zero_le b2.1
    exact JournalAll_spec r0 a c vs r2 _ [] (by omega) (by omega) h3 h4 (Nat.le_trans h1 h2) hE hT
theorem journalAllFn {H : Type} (ds : List (DataW H)) (h : ds.length = 3) : Rows.journalAllSpec.fn H ds = { results := [.lit (.bool true)], args := ds } := by
  match ds, h with
  | [d0, d1, d2], _ => rfl
theorem laid_met (os : Os) : laidMet Tryz.prog Rows.journalAllRow.laid ((World.laidAll Tryz.prog os laidL).forCall (fun _ _ => 0) ⟨#[], #[.int .u16 0, .slice none 0 0, .int .u8 0], []⟩).memory := laid_all os _
theorem journalAll_reads (os : Os) {H : Type} (enc : TypeId × Value → H) : ∃ places, DataW.whole enc Tryz.prog ((World.laidAll Tryz.prog os laidL).forCall (fun _ _ => 0) ⟨#[], #[.int .u16 0, .slice none 0 0, .int .u8 0], []⟩).memory Tryz.f3.params.toList Rows.journalAllSpec.vars false (#[.int .u16 0, .slice none 0 0, .int .u8 0] : Array Value).toList 8 = some ([.lit (.int .u16 0), .nil, .lit (.int .u8 0)], [], places) :=
  ⟨[], by kernel_rfl⟩
set_option maxHeartbeats 1000000 in
set_option maxRecDepth 100000 in
theorem journalAllLifted (os : Os) (started : os.Started) (H : Type) (enc : TypeId × Value → H) (F : Stop.Interp) :
    ReturnsInHanded {} Tryz.checked os 3 .any ((OpenSpec.ofChange Rows.journalAllSpec).preRow enc Tryz.prog Tryz.f3 Rows.journalAllRow.domain false Rows.journalAllRow.laid) (((OpenSpec.ofChange Rows.journalAllSpec).at F).post enc Tryz.prog Tryz.f3 false true false false) := by
  obtain ⟨places, hx⟩ := journalAll_reads os enc
  refine returnsInHanded_of_row (C := Tryz.checked) (s := OpenSpec.ofChange Rows.journalAllSpec) own started (by kernel_rfl) Tryz.func3
    (witness_row_at (enc := enc) (C := Tryz.checked) false (World.laidAll Tryz.prog os laidL) #[.int .u16 0, .slice none 0 0, .int .u8 0] (World.laidAll_os _ _ _) (by kernel_rfl) (by kernel_rfl) (by kernel_rfl)
      (OpenSpec.preRow_of_cond 8 hx (by kernel_rfl) (fun k hk => by cases hk) (by kernel_rfl) (laid_met os))) ?_
  intro W base args ds gs before hval hW _ _ _ hL _ _
  exact row_post (f := 3) (F := Tryz.f3) (s := Rows.journalAllSpec) (kids_rows (by kernel_rfl) (by kernel_rfl)) (slices_full_of Tryz.prog (by kernel_rfl)) (by kernel_rfl) rfl (fun ds h => journalAllFn ds h) rfl Tryz.underlying4 hval hW (fun ha hl => journalAllArgs args.toList ha hl (err_of_laid hL) (nib_of_laid hL))
theorem journalAllSaid : Rows.JournalAllSaid :=
  OpenClaim.holds_of_cond 3 Tryz.f3 rfl rfl rfl rfl rfl rfl rfl ⟨rfl, rfl, rfl, rfl, rfl⟩ rfl rfl rfl rfl rfl (by kernel_rfl) Tryz.func3 (by kernel_rfl)
    (of_decide_eq_true (by kernel_rfl)) (by unfold Func.isWrapper; first | (rw [if_pos (by decide +kernel)]; kernel_rfl) | (rw [if_neg (by decide +kernel)]; exact ⟨rfl, rfl⟩))
    (fun os started H enc _ F => by rw [OpenClaim.pre_eq_preRow]; exact journalAllLifted os started H enc F)
theorem journalAll_plain (f : FuncId) (fn : Func) (hf : Tryz.pinned.checked.prog.funcNamed "armillary/armillarylaw06.JournalAll" = some f) (hfn : Tryz.pinned.checked.prog.funcs[f]? = some fn) :
    true = Tryz.pinned.checked.prog.looks [] ∧ ∀ (j : Nat) t, fn.params[j]? = some t → Tryz.pinned.checked.prog.wantsStandIn t = false := by
  obtain rfl : f = 3 := Option.some.inj ((show Tryz.prog.funcNamed "armillary/armillarylaw06.JournalAll" = some 3 by kernel_rfl).symm.trans hf) |>.symm
  obtain rfl : fn = Tryz.f3 := (Option.some.inj (Tryz.func3.symm.trans hfn)).symm
  refine ⟨by kernel_rfl, fun j t ht => ?_⟩
  rw [Tryz.params3] at ht
  have hm := Array.mem_of_getElem? ht
  simp only [List.mem_toArray, List.mem_cons, List.not_mem_nil, or_false] at hm
  rcases hm with rfl | rfl | rfl
  · exact (show Tryz.prog.wantsStandIn 22 = false by kernel_rfl)
  · exact (show Tryz.prog.wantsStandIn 23 = false by kernel_rfl)
  · exact (show Tryz.prog.wantsStandIn 5 = false by kernel_rfl)
theorem journalAll_holds : Rows.JournalAllCardSaid :=
  Claim7.holds_tied_plain_at .later [] _ _ _ _ journalAllSaid (fun _ h => by cases h) (by kernel_rfl) (fun _ h => by cases h) journalAll_row_tie rfl ⟨rfl, rfl⟩ (by kernel_rfl) rfl journalAll_plain (by kernel_rfl)
#print axioms journalAll_holds
end Go.Proofs.YtkleenllkjodoaaGreatDoor
