/- The card of CourtNil. The listed variables start as the text of the program lays them. -/
import Derived.Test.YtlnfjhiphlfkjaaGreatDoorPk13
set_option linter.unusedVariables false
set_option linter.unusedSimpArgs false
set_option linter.unusedSectionVars false
namespace Go.Proofs.YtlnfjhiphlfkjaaGreatDoor
open Go Go.SX Go.ChangeShapes Go.WideShapes Go.ChangeAt Go.RowKit
theorem cY {H:Type}{enc:TypeId×Value→H}{W:World}(args:List Value)(ha:∀(i:Nat) (t:TypeId) (v:Value),Tryz.f4.params.toList[i]? =some t→args[i]? =some v→Arg enc kY W t v)(hl:args.length=3)(hE:Vm (yS W))(hB:xg (yS W))(hT:yE (yS W)):
  qh kY 4 args [qo (yS W)] (λv _=>v=.bool true):=by
 match args,hl with
 | [v0,v1,v2],_=>
  obtain ⟨n0,rfl,w0⟩:=(ha 0 _ v0 rfl rfl).int Tryz.underlying3;obtain ⟨n1,rfl,w1⟩:=(ha 1 _ v1 rfl rfl).int Tryz.underlying3;obtain ⟨a,c,bs,rfl,h1,h2,h3⟩:=(ha 2 _ v2 rfl rfl).bytes Tryz.underlying34 Tryz.underlying5 (by kernel_rfl);exact Zj n0 n1 a c bs _ [] h3 h1 hT hB hE
theorem mC {H:Type}(ds:List (DataW H))(h:ds.length=3):Rows.courtNilSpec.fn H ds={results:=[.lit (.bool true)],args:=ds}:=by
 match ds,h with
 | [d0,d1,d2],_=>rfl
theorem jBu (os:Os):laidMet kY Rows.courtNilRow.laid ((World.laidAll kY os zD).forCall (λ_ _=>0) ⟨#[],#[.int .i64 0,.int .i64 0,.slice none 0 0],[]⟩).memory:=sj os _
theorem Yp (os:Os){H:Type}(enc:TypeId×Value→H):∃places,DataW.whole enc kY ((World.laidAll kY os zD).forCall (λ_ _=>0) ⟨#[],#[.int .i64 0,.int .i64 0,.slice none 0 0],[]⟩).memory Tryz.f4.params.toList Rows.courtNilSpec.vars false (#[.int .i64 0,.int .i64 0,.slice none 0 0]:Array Value).toList 8=some ([.lit (.int .i64 0),.lit (.int .i64 0),.nil],[],places):=
 ⟨[],by kernel_rfl⟩
set_option maxHeartbeats 1000000 in
set_option maxRecDepth 100000 in
theorem Yr (os:Os)(started:os.Started)(H:Type)(enc:TypeId×Value→H)(F:Stop.Interp):
  ReturnsInHanded {} Tryz.checked os 4 .any ((OpenSpec.ofChange Rows.courtNilSpec).preRow enc kY Tryz.f4 Rows.courtNilRow.domain false Rows.courtNilRow.laid) (((OpenSpec.ofChange Rows.courtNilSpec).at F).post enc kY Tryz.f4 false true false false):=by
 obtain ⟨places,hx⟩:=Yp os enc;refine returnsInHanded_of_row (C:=Tryz.checked) (s:=OpenSpec.ofChange Rows.courtNilSpec) own started (by kernel_rfl) Tryz.func4
  (witness_row_at (enc := enc) (C := Tryz.checked) false (World.laidAll kY os zD) #[.int .i64 0,.int .i64 0,.slice none 0 0] (World.laidAll_os _ _ _) (by kernel_rfl) (by kernel_rfl) (by kernel_rfl)
   (OpenSpec.preRow_of_cond 8 hx (by kernel_rfl) (λk hk=>by cases hk) (by kernel_rfl) (jBu os))) ?_
 intro W base args ds gs before hval hW _ _ _ hL _ _;exact jAQ (f:=4) (F:=Tryz.f4) (s:=Rows.courtNilSpec) (kids_rows (by kernel_rfl) (by kernel_rfl)) (slices_full_of kY (by kernel_rfl)) (by kernel_rfl) rfl (λds h=>mC ds h) rfl Tryz.underlying4 hval hW (λha hl=>cY args.toList ha hl (cR hL) (cA hL) (bL hL))
theorem cX :Rows.CourtNilSaid:=
 OpenClaim.holds_of_cond 4 Tryz.f4 rfl rfl rfl rfl rfl rfl rfl ⟨rfl,rfl,rfl,rfl,rfl⟩ rfl rfl rfl rfl rfl (by kernel_rfl) Tryz.func4 Y9
  (kV (by kernel_rfl)) (by unfold Func.isWrapper;first|(rw[jb (by decide+kernel)];kernel_rfl)|(rw[ja (by decide+kernel)];exact ⟨rfl,rfl⟩))
  (λos started H enc _ F=>by rw[OpenClaim.pre_eq_preRow];exact Yr os started H enc F)
theorem Yq (f:FuncId)(fn:Func)(hf:Tryz.pinned.checked.prog.funcNamed "armillary/armillarylaw18.CourtNil" =some f)(hfn:Tryz.pinned.checked.prog.funcs[f]? =some fn):
  true=Tryz.pinned.checked.prog.looks []∧∀(j:Nat) t,fn.params[j]? =some t→Tryz.pinned.checked.prog.wantsStandIn t=false:=by
 obtain rfl:f=4:=Option.some.inj ((show Tryz.prog.funcNamed "armillary/armillarylaw18.CourtNil" =some 4 by kernel_rfl).symm.trans hf)|>.symm
 obtain rfl:fn=Tryz.f4:=(Option.some.inj (Tryz.func4.symm.trans hfn)).symm;refine ⟨by kernel_rfl,λj t ht=> ?_⟩;rw[Tryz.params4] at ht;have hm:=Array.mem_of_getElem? ht;simp only[List.mem_toArray,j9,List.not_mem_nil,or_false] at hm
 rcases hm with rfl|rfl|rfl
 ·exact (show Tryz.prog.wantsStandIn 3=false by kernel_rfl)
 ·exact (show Tryz.prog.wantsStandIn 3=false by kernel_rfl)
 ·exact (show Tryz.prog.wantsStandIn 34=false by kernel_rfl)
theorem courtNil_holds :Rows.CourtNilCardSaid:=
 Claim7.holds_tied_plain_at .later [] _ _ _ _ cX (λ_ h=>by cases h) (by kernel_rfl) (λ_ h=>by cases h) courtNil_row_tie rfl ⟨rfl,rfl⟩ (by kernel_rfl) rfl Yq (by kernel_rfl)
#print axioms courtNil_holds
end Go.Proofs.YtlnfjhiphlfkjaaGreatDoor
