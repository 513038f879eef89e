/- The card of JudgePacks: what a judge packs another one unpacks, what was committed and what of it is not acknowledged; any bytes are unpacked, or are not; one that is not empty takes none; note.sorts starts as the text of the program lays it. -/
import Derived.Test.YtiampehfpgcogaaGreatDoorPk11
set_option linter.unusedVariables false
set_option linter.unusedSimpArgs false
set_option linter.unusedSectionVars false
namespace Go.Proofs.YtiampehfpgcogaaGreatDoor
open Go Go.SX Go.ChangeShapes Go.WideShapes Go.ChangeAt Go.RowKit
theorem judgePacksArgs {H : Type} {enc : TypeId × Value → H} {W : World} (args : List Value) (ha : ∀ (i : Nat) (t : TypeId) (v : Value),Tryz.f7.params.toList[i]? = some t → args[i]? = some v → Arg enc Tryz.prog W t v) (hl : args.length = 2) (hT : TabM (all0 W)) :
  CallsS Tryz.prog 7 args [roM (all0 W)] (fun v _ => v = .bool true) := by
 match args,hl with
 | [v0,v1],_ =>
  obtain ⟨a,c,vs,rfl,h1,h2,h3,h4⟩ := (ha 0 _ v0 rfl rfl).list (fun r hr => Rd.go hr) (sz := 19) Tryz.underlying22 (by kernel_rfl) (by decide)
  obtain ⟨ap,cp,ps,rfl,k1,k2,k3⟩ := (ha 1 _ v1 rfl rfl).bytes Tryz.underlying67 Tryz.underlying5 (by kernel_rfl)
  exact JudgePacks_spec a c vs ap cp ps _ h3 h4 (Nat.le_trans h1 h2) k3 k1 (Nat.le_trans k1 k2) hT
theorem judgePacksFn {H : Type} (ds : List (DataW H)) (h : ds.length = 2) : Rows.judgePacksSpec.fn H ds = { results := [.lit (.bool true)],args := ds } := by
 match ds,h with
 | [d0,d1],_ => rfl
noncomputable def laidWorld (os : Os) : World :=
 { World.holding Tryz.prog os ⟨#[],#[],[]⟩ with heap := (World.holding Tryz.prog os ⟨#[],#[],[]⟩).heap.modify 0 fun
   | .cells _ t frozen => .cells sortsC.toArray t frozen
   | o => o }
theorem laid_met (os : Os) : laidMet Tryz.prog Rows.judgePacksRow.laid ((laidWorld os).forCall (fun _ _ => 0) ⟨#[],#[.slice none 0 0,.slice none 0 0],[]⟩).memory :=
 laidMet_of_run' 8 (by kernel_rfl) (by kernel_rfl)
theorem packs_reads (os : Os) {H : Type} (enc : TypeId × Value → H) : ∃ places,DataW.whole enc Tryz.prog ((laidWorld os).forCall (fun _ _ => 0) ⟨#[],#[.slice none 0 0,.slice none 0 0],[]⟩).memory Tryz.f7.params.toList Rows.judgePacksSpec.vars false #[Value.slice none 0 0,.slice none 0 0].toList 8 = some ([.nil,.nil],[],places) :=
 ⟨[],by kernel_rfl⟩
set_option maxHeartbeats 1000000 in
set_option maxRecDepth 100000 in
theorem judgePacksLifted (os : Os) (started : os.Started) (H : Type) (enc : TypeId × Value → H) (F : Stop.Interp) :
  ReturnsInHanded {} Tryz.checked os 7 .any ((OpenSpec.ofChange Rows.judgePacksSpec).preRow enc Tryz.prog Tryz.f7 Rows.judgePacksRow.domain false Rows.judgePacksRow.laid) (((OpenSpec.ofChange Rows.judgePacksSpec).at F).post enc Tryz.prog Tryz.f7 false true false false) := by
 obtain ⟨places,hx⟩ := packs_reads os enc
 refine returnsInHanded_of_row (C := Tryz.checked) (s := OpenSpec.ofChange Rows.judgePacksSpec) own started (by kernel_rfl) Tryz.func7
  (witness_row_at (enc := enc) (C := Tryz.checked) false (laidWorld os) #[.slice none 0 0,.slice none 0 0] rfl (by kernel_rfl) (by kernel_rfl) (by kernel_rfl)
   (OpenSpec.preRow_of_cond 8 hx (by kernel_rfl) (fun k hk => by cases hk) (by kernel_rfl) (laid_met os))) ?_
 intro W base args ds gs before hval hW _ _ _ hL _ _
 exact row_post (f := 7) (F := Tryz.f7) (s := Rows.judgePacksSpec) (kids_rows (by kernel_rfl) (by kernel_rfl)) (slices_full_of Tryz.prog (by kernel_rfl)) (by kernel_rfl) rfl (fun ds h => judgePacksFn ds h) rfl Tryz.underlying4 hval hW (fun ha hl => judgePacksArgs args.toList ha hl (tab_of_laid hL))
theorem judgePacksSaid : Rows.JudgePacksSaid :=
 OpenClaim.holds_of_cond 7 Tryz.f7 rfl rfl rfl rfl rfl rfl rfl ⟨rfl,rfl,rfl,rfl,rfl⟩ rfl rfl rfl rfl rfl (by kernel_rfl) Tryz.func7 (by kernel_rfl)
  (of_decide_eq_true (by kernel_rfl)) (by unfold Func.isWrapper;first | (rw [if_pos (by decide +kernel)];kernel_rfl) | (rw [if_neg (by decide +kernel)];exact ⟨rfl,rfl⟩))
  (fun os started H enc _ F => by rw [OpenClaim.pre_eq_preRow];exact judgePacksLifted os started H enc F)
theorem judgePacks_plain (f : FuncId) (fn : Func) (hf : Tryz.pinned.checked.prog.funcNamed "armillary/armillarylaw15.JudgePacks" = some f) (hfn : Tryz.pinned.checked.prog.funcs[f]? = some fn) :
  false = Tryz.pinned.checked.prog.looks [] ∧ ∀ (j : Nat) t,fn.params[j]? = some t → Tryz.pinned.checked.prog.wantsStandIn t = false := by
 obtain rfl : f = 7 := Option.some.inj ((show Tryz.prog.funcNamed "armillary/armillarylaw15.JudgePacks" = some 7 by kernel_rfl).symm.trans hf) |>.symm
 obtain rfl : fn = Tryz.f7 := (Option.some.inj (Tryz.func7.symm.trans hfn)).symm
 refine ⟨by kernel_rfl,fun j t ht => ?_⟩
 rw [Tryz.params7] at ht
 have hm := Array.mem_of_getElem? ht
 simp only [List.mem_toArray,List.mem_cons,List.not_mem_nil,or_false] at hm
 rcases hm with rfl | rfl
 ·exact (show Tryz.prog.wantsStandIn 22 = false by kernel_rfl)
 ·exact (show Tryz.prog.wantsStandIn 67 = false by kernel_rfl)
theorem judgePacks_holds : Rows.JudgePacksCardSaid :=
 Claim7.holds_tied_plain_at .later [] _ _ _ _ judgePacksSaid (fun _ h => by cases h) (by kernel_rfl) (fun _ h => by cases h) judgePacks_row_tie rfl ⟨rfl,rfl⟩ (by kernel_rfl) rfl judgePacks_plain (by kernel_rfl)
#print axioms judgePacks_holds
end Go.Proofs.YtiampehfpgcogaaGreatDoor
