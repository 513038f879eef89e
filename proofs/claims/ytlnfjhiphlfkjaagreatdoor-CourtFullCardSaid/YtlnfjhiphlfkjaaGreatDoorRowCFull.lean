/- The card of CourtFull. The listed variables start as the text of the program lays them. -/
import Derived.Test.YtlnfjhiphlfkjaaGreatDoorPk14
set_option linter.unusedVariables false
set_option linter.unusedSimpArgs false
set_option linter.unusedSectionVars false
namespace Go.Proofs.YtlnfjhiphlfkjaaGreatDoor
open Go Go.SX Go.ChangeShapes Go.WideShapes Go.ChangeAt Go.RowKit
theorem ZR {H:Type}{enc:TypeId×Value→H}{W:World}(args:List Value)(ha:∀(i:Nat) (t:TypeId) (v:Value),Tryz.f3.params.toList[i]? =some t→args[i]? =some v→Arg enc kY W t v)(hl:args.length=2)(hE:VT (zQ W))(hB:xL (zQ W))(hT:zB (zQ W)):
  qh kY 3 args [qp (zQ W)] (λv _=>v=.bool true):=by
 match args,hl with
 | [v0,v1],_=>
  obtain ⟨n0,rfl,w0⟩:=(ha 0 _ v0 rfl rfl).int Tryz.underlying22;obtain ⟨n1,rfl,w1⟩:=(ha 1 _ v1 rfl rfl).int Tryz.underlying5;have b0:=bounds_u16 w0;have b1:=bounds_u8 w1;obtain ⟨r0,rfl⟩:=Int.eq_ofNat_of_zero_le b0.1;obtain ⟨r1,rfl⟩:=Int.eq_ofNat_of_zero_le b1.1;exact Zx r0 r1 _ [] (by omega) (by omega) hT hB hE
theorem lP {H:Type}(ds:List (DataW H))(h:ds.length=2):Rows.courtFullSpec.fn H ds={results:=[.lit (.bool true)],args:=ds}:=by
 match ds,h with
 | [d0,d1],_=>rfl
theorem jCv (os:Os):laidMet kY Rows.courtFullRow.laid ((World.laidAll kY os Ji).forCall (λ_ _=>0) ⟨#[],#[.int .u16 0,.int .u8 0],[]⟩).memory:=jAk os _
theorem XQ (os:Os){H:Type}(enc:TypeId×Value→H):∃places,DataW.whole enc kY ((World.laidAll kY os Ji).forCall (λ_ _=>0) ⟨#[],#[.int .u16 0,.int .u8 0],[]⟩).memory Tryz.f3.params.toList Rows.courtFullSpec.vars false (#[.int .u16 0,.int .u8 0]:Array Value).toList 8=some ([.lit (.int .u16 0),.lit (.int .u8 0)],[],places):=
 ⟨[],by kernel_rfl⟩
set_option maxHeartbeats 1000000 in
set_option maxRecDepth 100000 in
theorem XS (os:Os)(started:os.Started)(H:Type)(enc:TypeId×Value→H)(F:Stop.Interp):
  ReturnsInHanded {} Tryz.checked os 3 .any ((OpenSpec.ofChange Rows.courtFullSpec).preRow enc kY Tryz.f3 Rows.courtFullRow.domain false Rows.courtFullRow.laid) (((OpenSpec.ofChange Rows.courtFullSpec).at F).post enc kY Tryz.f3 false true false false):=by
 obtain ⟨places,hx⟩:=XQ os enc;refine returnsInHanded_of_row (C:=Tryz.checked) (s:=OpenSpec.ofChange Rows.courtFullSpec) own started (by kernel_rfl) Tryz.func3
  (witness_row_at (enc := enc) (C := Tryz.checked) false (World.laidAll kY os Ji) #[.int .u16 0,.int .u8 0] (World.laidAll_os _ _ _) (by kernel_rfl) (by kernel_rfl) (by kernel_rfl)
   (OpenSpec.preRow_of_cond 8 hx (by kernel_rfl) (λk hk=>by cases hk) (by kernel_rfl) (jCv os))) ?_
 intro W base args ds gs before hval hW _ _ _ hL _ _;exact jBQ (f:=3) (F:=Tryz.f3) (s:=Rows.courtFullSpec) (kids_rows (by kernel_rfl) (by kernel_rfl)) (slices_full_of kY (by kernel_rfl)) (by kernel_rfl) rfl (λds h=>lP ds h) rfl Tryz.underlying4 hval hW (λha hl=>ZR args.toList ha hl (fb hL) (dL hL) (cZ hL))
theorem ZQ :Rows.CourtFullSaid:=
 OpenClaim.holds_of_cond 3 Tryz.f3 rfl rfl rfl rfl rfl rfl rfl ⟨rfl,rfl,rfl,rfl,rfl⟩ rfl rfl rfl rfl rfl (by kernel_rfl) Tryz.func3 Zd
  (kV (by kernel_rfl)) (by unfold Func.isWrapper;first|(rw[jb (by decide+kernel)];kernel_rfl)|(rw[ja (by decide+kernel)];exact ⟨rfl,rfl⟩))
  (λos started H enc _ F=>by rw[OpenClaim.pre_eq_preRow];exact XS os started H enc F)
theorem XR (f:FuncId)(fn:Func)(hf:Tryz.pinned.checked.prog.funcNamed "armillary/armillarylaw18.CourtFull" =some f)(hfn:Tryz.pinned.checked.prog.funcs[f]? =some fn):
  true=Tryz.pinned.checked.prog.looks []∧∀(j:Nat) t,fn.params[j]? =some t→Tryz.pinned.checked.prog.wantsStandIn t=false:=by
 obtain rfl:f=3:=Option.some.inj ((show Tryz.prog.funcNamed "armillary/armillarylaw18.CourtFull" =some 3 by kernel_rfl).symm.trans hf)|>.symm
 obtain rfl:fn=Tryz.f3:=(Option.some.inj (Tryz.func3.symm.trans hfn)).symm;refine ⟨by kernel_rfl,λj t ht=> ?_⟩;rw[Tryz.params3] at ht;have hm:=Array.mem_of_getElem? ht;simp only[List.mem_toArray,j9,List.not_mem_nil,or_false] at hm
 rcases hm with rfl|rfl
 ·exact (show Tryz.prog.wantsStandIn 22=false by kernel_rfl)
 ·exact (show Tryz.prog.wantsStandIn 5=false by kernel_rfl)
theorem courtFull_holds :Rows.CourtFullCardSaid:=
 Claim7.holds_tied_plain_at .later [] _ _ _ _ ZQ (λ_ h=>by cases h) (by kernel_rfl) (λ_ h=>by cases h) courtFull_row_tie rfl ⟨rfl,rfl⟩ (by kernel_rfl) rfl XR (by kernel_rfl)
#print axioms courtFull_holds
end Go.Proofs.YtlnfjhiphlfkjaaGreatDoor
