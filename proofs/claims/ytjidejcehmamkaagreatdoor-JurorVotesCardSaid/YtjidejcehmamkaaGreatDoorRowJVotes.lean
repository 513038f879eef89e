/- The card of JurorVotes: a Prepare is answered by one vote, to the court, or by none, if it is over or is not right; the vote is yes just if the intent is held then, for this very transaction; note.sorts starts as the text of the program lays it. -/
import Derived.Test.YtjidejcehmamkaaGreatDoorPk12
set_option linter.unusedVariables false
set_option linter.unusedSimpArgs false
set_option linter.unusedSectionVars false
namespace Go.Proofs.YtjidejcehmamkaaGreatDoor
open Go Go.SX Go.ChangeShapes Go.WideShapes Go.ChangeAt Go.RowKit
set_option maxRecDepth 100000 in
theorem Arg.note {H : Type} {enc : TypeId × Value → H} {W : World} {v : Value} (h : Arg enc Tryz.prog W 36 v) : ∃ n : NV, v = n.val ∧ okN (all0 W) n ∧ CapN n ∧ NumN n ∧ NumA n.abs := by
  obtain ⟨r, _, o⟩ := h
  obtain ⟨cs, rfl, _⟩ := okWide_struct Tryz.underlying36 o
  obtain ⟨n, hn, h1, h2, h3, h4⟩ := Rd.note r
  refine ⟨n, ?_, h1, h2, h3, h4⟩
  have e : cs = n.cells.toArray := by
    rw [← hn]
    exact (Array.toArray_toList (xs := cs)).symm
  rw [e]
theorem jurorVotesArgs {H : Type} {enc : TypeId × Value → H} {W : World} (args : List Value) (ha : ∀ (i : Nat) (t : TypeId) (v : Value), Tryz.f4.params.toList[i]? = some t → args[i]? = some v → Arg enc Tryz.prog W t v) (hl : args.length = 2) (hT : TabM (all0 W)) :
    CallsS Tryz.prog 4 args [roM (all0 W)] (fun v _ => v = .bool true) := by
  match args, hl with
  | [v0, v1], _ =>
    obtain ⟨a, c, vs, rfl, h1, h2, h3, h4⟩ := (ha 0 _ v0 rfl rfl).list (fun r hr => Rd.eo hr) (sz := 21) Tryz.underlying22 (by kernel_rfl) (by decide)
    obtain ⟨n, rfl, n1, n2, n3, n4⟩ := Arg.note (ha 1 _ v1 rfl rfl)
    exact JurorVotes_spec a c vs n _ h3 h4 (Nat.le_trans h1 h2) n1 n2 n3 n4 hT
theorem jurorVotesFn {H : Type} (ds : List (DataW H)) (h : ds.length = 2) : Rows.jurorVotesSpec.fn H ds = { results := [.lit (.bool true)], args := ds } := by
  match ds, h with
  | [d0, d1], _ => rfl
noncomputable def laidWorld (os : Os) : World :=
  { World.holding Tryz.prog os ⟨#[], #[], []⟩ with heap := (World.holding Tryz.prog os ⟨#[], #[], []⟩).heap.modify 0 fun
      | .cells _ t frozen => .cells sortsC.toArray t frozen
      | o => o }
theorem laid_met (os : Os) : laidMet Tryz.prog Rows.jurorVotesRow.laid ((laidWorld os).forCall (fun _ _ => 0) ⟨#[], #[.slice none 0 0, (NA.nv NA.zero).val], []⟩).memory :=
  laidMet_of_run' 8 (by kernel_rfl) (by kernel_rfl)
theorem jurorVotes_reads (os : Os) {H : Type} (enc : TypeId × Value → H) : ∃ places, DataW.whole enc Tryz.prog ((laidWorld os).forCall (fun _ _ => 0) ⟨#[], #[.slice none 0 0, (NA.nv NA.zero).val], []⟩).memory Tryz.f4.params.toList Rows.jurorVotesSpec.vars false #[.slice none 0 0, (NA.nv NA.zero).val].toList 8 = some ([.nil, .agg [.lit (.int .u8 0), .lit (.int .u64 0), .lit (.int .u64 0), .lit (.int .u64 0), .lit (.int .u64 0), .lit (.int .u64 0), .lit (.int .u64 0), .lit (.int .u64 0), .lit (.int .i64 0), .lit (.int .i64 0), .lit (.int .i64 0), .lit (.int .i64 0), .nil, .nil, .nil, .nil]], [], places) :=
  ⟨[], by kernel_rfl⟩
set_option maxHeartbeats 1000000 in
set_option maxRecDepth 100000 in
theorem jurorVotesLifted (os : Os) (started : os.Started) (H : Type) (enc : TypeId × Value → H) (F : Stop.Interp) :
    ReturnsInHanded {} Tryz.checked os 4 .any ((OpenSpec.ofChange Rows.jurorVotesSpec).preRow enc Tryz.prog Tryz.f4 Rows.jurorVotesRow.domain false Rows.jurorVotesRow.laid) (((OpenSpec.ofChange Rows.jurorVotesSpec).at F).post enc Tryz.prog Tryz.f4 false true false false) := by
  obtain ⟨places, hx⟩ := jurorVotes_reads os enc
  refine returnsInHanded_of_row (C := Tryz.checked) (s := OpenSpec.ofChange Rows.jurorVotesSpec) own started (by kernel_rfl) Tryz.func4
    (witness_row_at (enc := enc) (C := Tryz.checked) false (laidWorld os) #[.slice none 0 0, (NA.nv NA.zero).val] rfl (by kernel_rfl) (by kernel_rfl) (by kernel_rfl)
      (OpenSpec.preRow_of_cond 8 hx (by kernel_rfl) (fun k hk => by cases hk) (by kernel_rfl) (laid_met os))) ?_
  intro W base args ds gs before hval hW _ _ _ hL _ _
  exact row_post (f := 4) (F := Tryz.f4) (s := Rows.jurorVotesSpec) (kids_rows (by kernel_rfl) (by kernel_rfl)) (slices_full_of Tryz.prog (by kernel_rfl)) (by kernel_rfl) rfl (fun ds h => jurorVotesFn ds h) rfl Tryz.underlying4 hval hW (fun ha hl => jurorVotesArgs args.toList ha hl (tab_of_laid hL))
theorem jurorVotesSaid : Rows.JurorVotesSaid :=
  OpenClaim.holds_of_cond 4 Tryz.f4 rfl rfl rfl rfl rfl rfl rfl ⟨rfl, rfl, rfl, rfl, rfl⟩ rfl rfl rfl rfl rfl (by kernel_rfl) Tryz.func4 (by kernel_rfl)
    (of_decide_eq_true (by kernel_rfl)) (by unfold Func.isWrapper; first | (rw [if_pos (by decide +kernel)]; kernel_rfl) | (rw [if_neg (by decide +kernel)]; exact ⟨rfl, rfl⟩))
    (fun os started H enc _ F => by rw [OpenClaim.pre_eq_preRow]; exact jurorVotesLifted os started H enc F)
theorem jurorVotes_plain (f : FuncId) (fn : Func) (hf : Tryz.pinned.checked.prog.funcNamed "armillary/armillarylaw14.JurorVotes" = some f) (hfn : Tryz.pinned.checked.prog.funcs[f]? = some fn) :
    false = Tryz.pinned.checked.prog.looks [] ∧ ∀ (j : Nat) t, fn.params[j]? = some t → Tryz.pinned.checked.prog.wantsStandIn t = false := by
  obtain rfl : f = 4 := Option.some.inj ((show Tryz.prog.funcNamed "armillary/armillarylaw14.JurorVotes" = some 4 by kernel_rfl).symm.trans hf) |>.symm
  obtain rfl : fn = Tryz.f4 := (Option.some.inj (Tryz.func4.symm.trans hfn)).symm
  refine ⟨by kernel_rfl, fun j t ht => ?_⟩
  rw [Tryz.params4] at ht
  rcases (by simpa using Array.mem_of_getElem? ht : t = 22 ∨ t = 36) with rfl | rfl
  · exact (show Tryz.prog.wantsStandIn 22 = false by kernel_rfl)
  · exact (show Tryz.prog.wantsStandIn 36 = false by kernel_rfl)
theorem jurorVotes_holds : Rows.JurorVotesCardSaid :=
  Claim7.holds_tied_plain_at .later [] _ _ _ _ jurorVotesSaid (fun _ h => by cases h) (by kernel_rfl) (fun _ h => by cases h) jurorVotes_row_tie rfl ⟨rfl, rfl⟩ (by kernel_rfl) rfl jurorVotes_plain (by kernel_rfl)
#print axioms jurorVotes_holds
end Go.Proofs.YtjidejcehmamkaaGreatDoor
