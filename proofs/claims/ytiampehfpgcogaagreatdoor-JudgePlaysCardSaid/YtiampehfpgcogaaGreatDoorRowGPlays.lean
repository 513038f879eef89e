/- The card of JudgePlays: for every script of notes, of any nodes, whose records can be written or cannot, of records, of giving up and new epochs, the plans are those of the document, and what the judge has; of a nil judge, too; note.sorts starts as the text of the program lays it. -/
import Derived.Test.YtiampehfpgcogaaGreatDoorPk11
set_option linter.unusedVariables false
set_option linter.unusedSimpArgs false
set_option linter.unusedSectionVars false
namespace Go.Proofs.YtiampehfpgcogaaGreatDoor
open Go Go.SX Go.ChangeShapes Go.WideShapes Go.ChangeAt Go.RowKit
theorem judgePlaysArgs {H : Type} {enc : TypeId × Value → H} {W : World} (args : List Value) (ha : ∀ (i : Nat) (t : TypeId) (v : Value),Tryz.f5.params.toList[i]? = some t → args[i]? = some v → Arg enc Tryz.prog W t v) (hl : args.length = 4) (hT : TabM (all0 W)) :
  CallsS Tryz.prog 5 args [roM (all0 W)] (fun v _ => v = .bool true) := by
 match args,hl with
 | [v0,v1,v2,v3],_ =>
  obtain ⟨nb,rfl⟩ := (ha 0 _ v0 rfl rfl).bool Tryz.underlying4
  obtain ⟨x,rfl,hx⟩ := (ha 1 _ v1 rfl rfl).int Tryz.underlying3
  obtain ⟨y,rfl,hy⟩ := (ha 2 _ v2 rfl rfl).int Tryz.underlying3
  obtain ⟨a,c,vs,rfl,h1,h2,h3,h4⟩ := (ha 3 _ v3 rfl rfl).list (fun r hr => Rd.go hr) (sz := 19) Tryz.underlying22 (by kernel_rfl) (by decide)
  exact JudgePlays_spec nb x y a c vs _ h3 h4 (Nat.le_trans h1 h2) hT
theorem judgePlaysFn {H : Type} (ds : List (DataW H)) (h : ds.length = 4) : Rows.judgePlaysSpec.fn H ds = { results := [.lit (.bool true)],args := ds } := by
 match ds,h with
 | [d0,d1,d2,d3],_ => rfl
noncomputable def laidWorld (os : Os) : World :=
 { World.holding Tryz.prog os ⟨#[],#[],[]⟩ with heap := (World.holding Tryz.prog os ⟨#[],#[],[]⟩).heap.modify 0 fun
   | .cells _ t frozen => .cells sortsC.toArray t frozen
   | o => o }
theorem laid_met (os : Os) : laidMet Tryz.prog Rows.judgePlaysRow.laid ((laidWorld os).forCall (fun _ _ => 0) ⟨#[],#[.bool false,.int .i64 0,.int .i64 0,.slice none 0 0],[]⟩).memory :=
 laidMet_of_run' 8 (by kernel_rfl) (by kernel_rfl)
theorem plays_reads (os : Os) {H : Type} (enc : TypeId × Value → H) : ∃ places,DataW.whole enc Tryz.prog ((laidWorld os).forCall (fun _ _ => 0) ⟨#[],#[.bool false,.int .i64 0,.int .i64 0,.slice none 0 0],[]⟩).memory Tryz.f5.params.toList Rows.judgePlaysSpec.vars false #[Value.bool false,.int .i64 0,.int .i64 0,.slice none 0 0].toList 8 = some ([.lit (.bool false),.lit (.int .i64 0),.lit (.int .i64 0),.nil],[],places) :=
 ⟨[],by kernel_rfl⟩
set_option maxHeartbeats 1000000 in
set_option maxRecDepth 100000 in
theorem judgePlaysLifted (os : Os) (started : os.Started) (H : Type) (enc : TypeId × Value → H) (F : Stop.Interp) :
  ReturnsInHanded {} Tryz.checked os 5 .any ((OpenSpec.ofChange Rows.judgePlaysSpec).preRow enc Tryz.prog Tryz.f5 Rows.judgePlaysRow.domain false Rows.judgePlaysRow.laid) (((OpenSpec.ofChange Rows.judgePlaysSpec).at F).post enc Tryz.prog Tryz.f5 false true false false) := by
 obtain ⟨places,hx⟩ := plays_reads os enc
 refine returnsInHanded_of_row (C := Tryz.checked) (s := OpenSpec.ofChange Rows.judgePlaysSpec) own started (by kernel_rfl) Tryz.func5
  (witness_row_at (enc := enc) (C := Tryz.checked) false (laidWorld os) #[.bool false,.int .i64 0,.int .i64 0,.slice none 0 0] rfl (by kernel_rfl) (by kernel_rfl) (by kernel_rfl)
   (OpenSpec.preRow_of_cond 8 hx (by kernel_rfl) (fun k hk => by cases hk) (by kernel_rfl) (laid_met os))) ?_
 intro W base args ds gs before hval hW _ _ _ hL _ _
 exact row_post (f := 5) (F := Tryz.f5) (s := Rows.judgePlaysSpec) (kids_rows (by kernel_rfl) (by kernel_rfl)) (slices_full_of Tryz.prog (by kernel_rfl)) (by kernel_rfl) rfl (fun ds h => judgePlaysFn ds h) rfl Tryz.underlying4 hval hW (fun ha hl => judgePlaysArgs args.toList ha hl (tab_of_laid hL))
theorem judgePlaysSaid : Rows.JudgePlaysSaid :=
 OpenClaim.holds_of_cond 5 Tryz.f5 rfl rfl rfl rfl rfl rfl rfl ⟨rfl,rfl,rfl,rfl,rfl⟩ rfl rfl rfl rfl rfl (by kernel_rfl) Tryz.func5 (by kernel_rfl)
  (of_decide_eq_true (by kernel_rfl)) (by unfold Func.isWrapper;first | (rw [if_pos (by decide +kernel)];kernel_rfl) | (rw [if_neg (by decide +kernel)];exact ⟨rfl,rfl⟩))
  (fun os started H enc _ F => by rw [OpenClaim.pre_eq_preRow];exact judgePlaysLifted os started H enc F)
theorem judgePlays_plain (f : FuncId) (fn : Func) (hf : Tryz.pinned.checked.prog.funcNamed "armillary/armillarylaw15.JudgePlays" = some f) (hfn : Tryz.pinned.checked.prog.funcs[f]? = some fn) :
  false = Tryz.pinned.checked.prog.looks [] ∧ ∀ (j : Nat) t,fn.params[j]? = some t → Tryz.pinned.checked.prog.wantsStandIn t = false := by
 obtain rfl : f = 5 := Option.some.inj ((show Tryz.prog.funcNamed "armillary/armillarylaw15.JudgePlays" = some 5 by kernel_rfl).symm.trans hf) |>.symm
 obtain rfl : fn = Tryz.f5 := (Option.some.inj (Tryz.func5.symm.trans hfn)).symm
 refine ⟨by kernel_rfl,fun j t ht => ?_⟩
 rw [Tryz.params5] at ht
 have hm := Array.mem_of_getElem? ht
 simp only [List.mem_toArray,List.mem_cons,List.not_mem_nil,or_false] at hm
 rcases hm with rfl | rfl | rfl | rfl
 ·exact (show Tryz.prog.wantsStandIn 4 = false by kernel_rfl)
 ·exact (show Tryz.prog.wantsStandIn 3 = false by kernel_rfl)
 ·exact (show Tryz.prog.wantsStandIn 3 = false by kernel_rfl)
 ·exact (show Tryz.prog.wantsStandIn 22 = false by kernel_rfl)
theorem judgePlays_holds : Rows.JudgePlaysCardSaid :=
 Claim7.holds_tied_plain_at .later [] _ _ _ _ judgePlaysSaid (fun _ h => by cases h) (by kernel_rfl) (fun _ h => by cases h) judgePlays_row_tie rfl ⟨rfl,rfl⟩ (by kernel_rfl) rfl judgePlays_plain (by kernel_rfl)
#print axioms judgePlays_holds
end Go.Proofs.YtiampehfpgcogaaGreatDoor
