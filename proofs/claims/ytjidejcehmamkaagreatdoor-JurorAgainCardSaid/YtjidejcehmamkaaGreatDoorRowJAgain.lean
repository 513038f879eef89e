/- The card of JurorAgain: what comes twice is answered alike, and changes nothing the second time; note.sorts starts as the text of the program lays it. -/
import Derived.Test.YtjidejcehmamkaaGreatDoorPk12
set_option linter.unusedVariables false
set_option linter.unusedSimpArgs false
set_option linter.unusedSectionVars false
namespace Go.Proofs.YtjidejcehmamkaaGreatDoor
open Go Go.SX Go.ChangeShapes Go.WideShapes Go.ChangeAt Go.RowKit
set_option maxRecDepth 100000 in
theorem Arg.eo {H : Type} {enc : TypeId × Value → H} {W : World} {v : Value} (h : Arg enc Tryz.prog W 38 v) : ∃ o : EO, v = .agg o.cells.toArray ∧ EOK (all0 W) o := by
  obtain ⟨r, _, o⟩ := h
  obtain ⟨cs, rfl, _⟩ := okWide_struct Tryz.underlying38 o
  obtain ⟨n, hn, h1⟩ := Rd.eo r
  refine ⟨n, ?_, h1⟩
  have e : cs = n.cells.toArray := by
    rw [← hn]
    exact (Array.toArray_toList (xs := cs)).symm
  rw [e]
theorem jurorAgainArgs {H : Type} {enc : TypeId × Value → H} {W : World} (args : List Value) (ha : ∀ (i : Nat) (t : TypeId) (v : Value), Tryz.f5.params.toList[i]? = some t → args[i]? = some v → Arg enc Tryz.prog W t v) (hl : args.length = 2) (hT : TabM (all0 W)) :
    CallsS Tryz.prog 5 args [roM (all0 W)] (fun v _ => v = .bool true) := by
  match args, hl with
  | [v0, v1], _ =>
    obtain ⟨a, c, vs, rfl, h1, h2, h3, h4⟩ := (ha 0 _ v0 rfl rfl).list (fun r hr => Rd.eo hr) (sz := 21) Tryz.underlying22 (by kernel_rfl) (by decide)
    obtain ⟨n, rfl, n1⟩ := Arg.eo (ha 1 _ v1 rfl rfl)
    exact JurorAgain_spec a c vs n _ h3 h4 (Nat.le_trans h1 h2) n1 hT
theorem jurorAgainFn {H : Type} (ds : List (DataW H)) (h : ds.length = 2) : Rows.jurorAgainSpec.fn H ds = { results := [.lit (.bool true)], args := ds } := by
  match ds, h with
  | [d0, d1], _ => rfl
def EO.zero : EO := ⟨0, NA.nv NA.zero, false, false, 0, 0⟩
noncomputable def laidWorld (os : Os) : World :=
  { World.holding Tryz.prog os ⟨#[], #[], []⟩ with heap := (World.holding Tryz.prog os ⟨#[], #[], []⟩).heap.modify 0 fun
      | .cells _ t frozen => .cells sortsC.toArray t frozen
      | o => o }
theorem laid_met (os : Os) : laidMet Tryz.prog Rows.jurorAgainRow.laid ((laidWorld os).forCall (fun _ _ => 0) ⟨#[], #[.slice none 0 0, (.agg EO.zero.cells.toArray)], []⟩).memory :=
  laidMet_of_run' 8 (by kernel_rfl) (by kernel_rfl)
theorem jurorAgain_reads (os : Os) {H : Type} (enc : TypeId × Value → H) : ∃ places, DataW.whole enc Tryz.prog ((laidWorld os).forCall (fun _ _ => 0) ⟨#[], #[.slice none 0 0, (.agg EO.zero.cells.toArray)], []⟩).memory Tryz.f5.params.toList Rows.jurorAgainSpec.vars false #[.slice none 0 0, (.agg EO.zero.cells.toArray)].toList 8 = some ([.nil, .agg [.lit (.int .i64 0), .agg [.lit (.int .u8 0), .lit (.int .u64 0), .lit (.int .u64 0), .lit (.int .u64 0), .lit (.int .u64 0), .lit (.int .u64 0), .lit (.int .u64 0), .lit (.int .u64 0), .lit (.int .i64 0), .lit (.int .i64 0), .lit (.int .i64 0), .lit (.int .i64 0), .nil, .nil, .nil, .nil], .lit (.bool false), .lit (.bool false), .lit (.int .u64 0), .lit (.int .u64 0)]], [], places) :=
  ⟨[], by kernel_rfl⟩
set_option maxHeartbeats 1000000 in
set_option maxRecDepth 100000 in
theorem jurorAgainLifted (os : Os) (started : os.Started) (H : Type) (enc : TypeId × Value → H) (F : Stop.Interp) :
    ReturnsInHanded {} Tryz.checked os 5 .any ((OpenSpec.ofChange Rows.jurorAgainSpec).preRow enc Tryz.prog Tryz.f5 Rows.jurorAgainRow.domain false Rows.jurorAgainRow.laid) (((OpenSpec.ofChange Rows.jurorAgainSpec).at F).post enc Tryz.prog Tryz.f5 false true false false) := by
  obtain ⟨places, hx⟩ := jurorAgain_reads os enc
  refine returnsInHanded_of_row (C := Tryz.checked) (s := OpenSpec.ofChange Rows.jurorAgainSpec) own started (by kernel_rfl) Tryz.func5
    (witness_row_at (enc := enc) (C := Tryz.checked) false (laidWorld os) #[.slice none 0 0, (.agg EO.zero.cells.toArray)] rfl (by kernel_rfl) (by kernel_rfl) (by kernel_rfl)
      (OpenSpec.preRow_of_cond 8 hx (by kernel_rfl) (fun k hk => by cases hk) (by kernel_rfl) (laid_met os))) ?_
  intro W base args ds gs before hval hW _ _ _ hL _ _
  exact row_post (f := 5) (F := Tryz.f5) (s := Rows.jurorAgainSpec) (kids_rows (by kernel_rfl) (by kernel_rfl)) (slices_full_of Tryz.prog (by kernel_rfl)) (by kernel_rfl) rfl (fun ds h => jurorAgainFn ds h) rfl Tryz.underlying4 hval hW (fun ha hl => jurorAgainArgs args.toList ha hl (tab_of_laid hL))
theorem jurorAgainSaid : Rows.JurorAgainSaid :=
  OpenClaim.holds_of_cond 5 Tryz.f5 rfl rfl rfl rfl rfl rfl rfl ⟨rfl, rfl, rfl, rfl, rfl⟩ rfl rfl rfl rfl rfl (by kernel_rfl) Tryz.func5 (by kernel_rfl)
    (of_decide_eq_true (by kernel_rfl)) (by unfold Func.isWrapper; first | (rw [if_pos (by decide +kernel)]; kernel_rfl) | (rw [if_neg (by decide +kernel)]; exact ⟨rfl, rfl⟩))
    (fun os started H enc _ F => by rw [OpenClaim.pre_eq_preRow]; exact jurorAgainLifted os started H enc F)
theorem jurorAgain_plain (f : FuncId) (fn : Func) (hf : Tryz.pinned.checked.prog.funcNamed "armillary/armillarylaw14.JurorAgain" = some f) (hfn : Tryz.pinned.checked.prog.funcs[f]? = some fn) :
    false = Tryz.pinned.checked.prog.looks [] ∧ ∀ (j : Nat) t, fn.params[j]? = some t → Tryz.pinned.checked.prog.wantsStandIn t = false := by
  obtain rfl : f = 5 := Option.some.inj ((show Tryz.prog.funcNamed "armillary/armillarylaw14.JurorAgain" = some 5 by kernel_rfl).symm.trans hf) |>.symm
  obtain rfl : fn = Tryz.f5 := (Option.some.inj (Tryz.func5.symm.trans hfn)).symm
  refine ⟨by kernel_rfl, fun j t ht => ?_⟩
  rw [Tryz.params5] at ht
  rcases (by simpa using Array.mem_of_getElem? ht : t = 22 ∨ t = 38) with rfl | rfl
  · exact (show Tryz.prog.wantsStandIn 22 = false by kernel_rfl)
  · exact (show Tryz.prog.wantsStandIn 38 = false by kernel_rfl)
theorem jurorAgain_holds : Rows.JurorAgainCardSaid :=
  Claim7.holds_tied_plain_at .later [] _ _ _ _ jurorAgainSaid (fun _ h => by cases h) (by kernel_rfl) (fun _ h => by cases h) jurorAgain_row_tie rfl ⟨rfl, rfl⟩ (by kernel_rfl) rfl jurorAgain_plain (by kernel_rfl)
#print axioms jurorAgain_holds
end Go.Proofs.YtjidejcehmamkaaGreatDoor
