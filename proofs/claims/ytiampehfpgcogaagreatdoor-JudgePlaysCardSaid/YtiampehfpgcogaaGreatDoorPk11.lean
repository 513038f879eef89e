/- No judge at all: nil, the judge's and the document's. The law: what is given up is told to each part and to who asked, and is no trial any more; what is committed isn't given up. The law: for every script of notes, whose records can be written or can't, of records, of giving up and new epochs, the plans are the document's, and what the judge has; a nil judge's, too. No condition. -/
import Derived.Test.YtiampehfpgcogaaGreatDoorPk10
set_option linter.unusedVariables false
set_option linter.unusedSimpArgs false
set_option linter.unusedSectionVars false
namespace Go.Proofs.YtiampehfpgcogaaGreatDoor
open Go Go.SX
attribute [local irreducible] swp opsS thenS blockS retS CallsS St Ent YieldS anyS drawS
abbrev nP : Value := .pointer none
abbrev nV5 : Value := .agg #[.slice none 0 0,.slice none 0 0,.slice none 0 0,.slice none 0 0,.slice none 0 0]
theorem NApply (n : NV) (L : List HP) : CallsS Tryz.prog 13 [nP,n.val] L (fun r L' => r = .int .i64 6 ∧ L' = L) := by
 refine CallsS.of_body Tryz.func13 rfl rfl rfl ?_
 refine Q.r ?_;(repeat (intro b1;refine Q.r ?_))
 refine N.r1 (RV.tmp rfl RV.nil) ?_ ⟨rfl,rfl⟩
 exact Go.SX.Ent.go
theorem NRApply (n : NV) (L : List HP) : CallsS Tryz.prog 26 [nP,n.val] L (fun r L' => r = .int .i64 6 ∧ L' = L) := by
 refine CallsS.of_body Tryz.func26 rfl rfl rfl ?_
 refine Q.r ?_;(repeat (intro b1;refine Q.r ?_))
 refine N.r1 (RV.tmp rfl RV.nil) ?_ ⟨rfl,rfl⟩
 exact Go.SX.Ent.go
theorem NQuit (L : List HP) : CallsS Tryz.prog 12 [nP] L (fun r L' => r = nV5 ∧ L' = L) := by
 refine CallsS.of_body Tryz.func12 rfl rfl rfl ?_
 refine Q.r ?_;(repeat (intro b1;refine Q.r ?_))
 refine N.r1 (by apply RV.cellN;rfl;exact RdC.row;rfl;exact RV.nil) ?_ ⟨rfl,rfl⟩
 exact Go.SX.Ent.go
theorem NRQuit (L : List HP) : CallsS Tryz.prog 58 [nP] L (fun r L' => r = nV5 ∧ L' = L) := by
 refine CallsS.of_body Tryz.func58 rfl rfl rfl ?_
 refine Q.r ?_;(repeat (intro b1;refine Q.r ?_))
 refine N.r1 (by apply RV.cellN;rfl;exact RdC.row;rfl;exact RV.nil) ?_ ⟨rfl,rfl⟩
 exact Go.SX.Ent.go
theorem NPlan (n : NV) (fr : Int) (L : List HP) : CallsS Tryz.prog 15 [nP,.int .i64 fr,n.val] L (fun r L' => r = nV5 ∧ L' = L) := by
 refine CallsS.of_body Tryz.func15 rfl rfl rfl ?_
 refine Q.r ?_;(repeat (intro b1;refine Q.r ?_))
 refine N.r1 (by apply RV.cellN;rfl;exact RdC.row;rfl;exact RV.nil) ?_ ⟨rfl,rfl⟩
 exact Go.SX.Ent.go
theorem NDo (n : NV) (fr : Int) (L : List HP) : CallsS Tryz.prog 29 [nP,.int .i64 fr,n.val] L (fun r L' => r = nV5 ∧ L' = L) := by
 refine CallsS.of_body Tryz.func29 rfl rfl rfl ?_
 refine Q.r ?_;(repeat (intro b1;refine Q.r ?_))
 refine N.r1 (by apply RV.cellN;rfl;exact RdC.row;rfl;exact RV.nil) ?_ ⟨rfl,rfl⟩
 exact Go.SX.Ent.go
theorem NEpoch (L : List HP) : CallsS Tryz.prog 20 [nP] L (fun r L' => r = .int .u64 0 ∧ L' = L) := by
 refine CallsS.of_body Tryz.func20 rfl rfl rfl ?_
 refine Q.r ?_;(repeat (intro b1;refine Q.r ?_))
 exact N.r1 (RV.tmp rfl RV.nil) (Ent.refl _) ⟨rfl,rfl⟩
theorem NLast (L : List HP) : CallsS Tryz.prog 22 [nP] L (fun r L' => r = .int .u64 0 ∧ L' = L) := by
 refine CallsS.of_body Tryz.func22 rfl rfl rfl ?_
 refine Q.r ?_;(repeat (intro b1;refine Q.r ?_))
 exact N.r1 (RV.tmp rfl RV.nil) (Ent.refl _) ⟨rfl,rfl⟩
theorem NDone (b : Int) (L : List HP) : CallsS Tryz.prog 16 [nP,.int .u64 b] L (fun r L' => r = .tuple #[.int .u64 0,.bool false] ∧ L' = L) := by
 refine CallsS.of_body Tryz.func16 rfl rfl rfl ?_
 refine Q.r ?_;(repeat (intro b1;refine Q.r ?_))
 exact N.r2 (RV.tmp rfl (RV.tmp rfl RV.nil)) (Ent.refl _) ⟨rfl,rfl⟩
theorem NTrials (L : List HP) : CallsS Tryz.prog 11 [nP] L (fun r L' => r = .slice none 0 0 ∧ L' = L) := by
 refine CallsS.of_body Tryz.func11 rfl rfl rfl ?_
 refine Q.r ?_;(repeat (intro b1;refine Q.r ?_))
 exact N.r1 (RV.tmp rfl RV.nil) (Ent.refl _) ⟨rfl,rfl⟩
theorem NWake (L : List HP) : CallsS Tryz.prog 56 [nP] L (fun r L' => r = .slice none 0 0 ∧ L' = L) := by
 refine CallsS.of_body Tryz.func56 rfl rfl rfl ?_
 refine Q.r ?_;(repeat (intro b1;refine Q.r ?_))
 exact N.r1 (RV.tmp rfl RV.nil) (Ent.refl _) ⟨rfl,rfl⟩
theorem NRWake (L : List HP) : CallsS Tryz.prog 57 [nP] L (fun r L' => r = .slice none 0 0 ∧ L' = L) := by
 refine CallsS.of_body Tryz.func57 rfl rfl rfl ?_
 refine Q.r ?_;(repeat (intro b1;refine Q.r ?_))
 exact N.r1 (RV.tmp rfl RV.nil) (Ent.refl _) ⟨rfl,rfl⟩
theorem NPack (L : List HP) : CallsS Tryz.prog 19 [nP] L (fun r L' => r = .slice none 0 0 ∧ L' = L) := by
 refine CallsS.of_body Tryz.func19 rfl rfl rfl ?_
 refine Q.r ?_;(repeat (intro b1;refine Q.r ?_))
 exact N.r1 (RV.tmp rfl RV.nil) (Ent.refl _) ⟨rfl,rfl⟩
theorem NRPack (L : List HP) : CallsS Tryz.prog 53 [nP] L (fun r L' => r = .slice none 0 0 ∧ L' = L) := by
 refine CallsS.of_body Tryz.func53 rfl rfl rfl ?_
 refine Q.r ?_;(repeat (intro b1;refine Q.r ?_))
 exact N.r1 (RV.tmp rfl RV.nil) (Ent.refl _) ⟨rfl,rfl⟩
theorem okMs.rdM0 {M : Nat → Option Obj} {a : Option Addr} (h : okMs M a []) {L : List HP} [HasM M L] : RdMs L a [] := h.rdM fun _ h => by cases h
theorem okP5 {M : Nat → Option Obj} : P5 M PG.none none [] none [] none [] none [] none [] := ⟨okNs.nil,okNs.nil,okMs.nil,okNs.nil,okMs.nil,rfl,rfl,rfl,rfl,rfl⟩
theorem Nplan (M : Nat → Option Obj) (L : List HP) : CallsS Tryz.prog 31 [nV5] (roM M :: L) (fun r L' => ∃ b1 d1 b2 d2 b3 d3 b4 d4 b5 d5,r = lP5 b1 d1 0 b2 d2 0 b3 d3 0 b4 d4 0 b5 d5 0 ∧ L' = roM M :: L) := by
 refine (Lplan_spec none 0 [] none 0 [] none 0 [] none 0 [] none 0 [] M L okNs.nil okNs.nil okMs.nil okNs.nil okMs.nil (Nat.zero_le _) (Nat.zero_le _) (Nat.zero_le _) (Nat.zero_le _) (Nat.zero_le _)).post ?_
 rintro _ _ ⟨b1,d1,b2,d2,b3,d3,b4,d4,b5,d5,rfl,rfl⟩
 exact EntX.ent (L' := roM M :: L) (by exact Go.SX.Ent.go) (EntX.done ⟨b1,d1,b2,d2,b3,d3,b4,d4,b5,d5,rfl,rfl⟩)
theorem NSamePlan (b1 : Option Addr) (d1 : Nat) (b2 : Option Addr) (d2 : Nat) (b3 : Option Addr) (d3 : Nat) (b4 : Option Addr) (d4 : Nat) (b5 : Option Addr) (d5 : Nat) (M : Nat → Option Obj) (L : List HP) :
  CallsS Tryz.prog 30 [lP5 b1 d1 0 b2 d2 0 b3 d3 0 b4 d4 0 b5 d5 0,nV5] (roM M :: L) (fun v L' => v = .bool true ∧ L' = roM M :: L) :=
 SamePlan15_spec b1 d1 [] b2 d2 [] b3 d3 [] b4 d4 [] b5 d5 [] none 0 [] none 0 [] none 0 [] none 0 [] none 0 [] M PG.none L ⟨okNs.nil,okNs.nil,okMs.nil,okNs.nil,okMs.nil,rfl,rfl,rfl,rfl,rfl⟩ okP5 PN.none ⟨Nat.zero_le _,Nat.zero_le _,Nat.zero_le _,Nat.zero_le _,Nat.zero_le _⟩
theorem Napply (a : Option Addr) (c : Nat) (ns : List NV) (M : Nat → Option Obj) (L : List HP) (h : okNs M a ns) (hn : ns.length ≤ 1000000) :
  CallsS Tryz.prog 28 [nP,nP,.slice a ns.length c] (roM M :: L) (fun r L' => r = .bool true ∧ L' = roM M :: L) := by
 refine CallsS.of_body Tryz.func28 rfl rfl rfl ?_
 refine Q.r ?_;(repeat (intro b1;refine Q.r ?_))
 refine swp_loop (σ := Nat) (fun k => [(0,nP),(1,nP),(9,.slice a ns.length c),(10,.int .i64 ns.length),(11,.int .i64 k)]) (fun _ => roM M :: L) (fun k => k ≤ ns.length) (fun k => ns.length - k) 0 ⟨rfl,rfl,rfl,rfl,rfl,trivial⟩ (Ent.refl _) (Nat.zero_le _) ?_
 intro k hk
 by_cases hlt : k < ns.length
 ·obtain ⟨n,hq⟩ := mem_get hlt
  obtain ⟨b,oo,hia,cr⟩ := SlM.cm (g := NV.cells) (fun _ => rfl) h.1 hq rfl
  rw [hia]
  refine Q.r ?_;(repeat (intro b1;refine Q.r ?_))
  refine Q.dgo [true] [2,5] [] [0,1,3,4,2,5,6] ?_
  refine Q.rd ?_;(repeat (intro b1;refine Q.rd ?_))
  refine D.e rfl rfl rfl ?_
  refine S.cr (args := [nP,n.val]) rfl (NApply n _) ?_
  rintro _ _ ⟨rfl,rfl⟩
  refine Q.r ?_;(repeat (intro b1;refine Q.r ?_))
  refine Q.rd ?_;(repeat (intro b1;refine Q.rd ?_))
  refine D.e rfl rfl rfl ?_
  refine S.cr (args := [nP,n.val]) rfl (NRApply n _) ?_
  rintro _ _ ⟨rfl,rfl⟩
  refine Q.r ?_;(repeat (intro b1;refine Q.r ?_))
  refine Q.rd ?_;(repeat (intro b1;refine Q.rd ?_))
  refine Q.r ?_;(repeat (intro b1;refine Q.r ?_))
  rw [← hia]
  exact ⟨k + 1,⟨rfl,rfl,rfl,rfl,rfl,trivial⟩,by exact Go.SX.Ent.go,hlt,Nat.sub_succ_lt_self ns.length k hlt⟩
 ·have hke : k = ns.length := by omega
  subst hke
  refine Q.r ?_;(repeat (intro b1;refine Q.r ?_))
  exact N.r1 (RV.tmp rfl RV.nil) (Ent.refl _) ⟨rfl,rfl⟩
set_option maxHeartbeats 4000000 in
theorem Nsame (b : Int) (M : Nat → Option Obj) (L : List HP) : CallsS Tryz.prog 18 [nP,nP,.int .u64 b] (roM M :: L) (fun r L' => r = .bool true ∧ L' = roM M :: L) := by
 refine CallsS.of_body Tryz.func18 rfl rfl rfl ?_
 refine Q.r ?_;(repeat (intro b1;refine Q.r ?_))
 refine S.cr rfl (NPack _) ?_
 rintro _ _ ⟨rfl,rfl⟩
 refine Q.r ?_;(repeat (intro b1;refine Q.r ?_))
 refine S.cr rfl (NRPack _) ?_
 rintro _ _ ⟨rfl,rfl⟩
 refine Q.r ?_;(repeat (intro b1;refine Q.r ?_))
 refine S.cr rfl (RSameB_spec none none 0 0 [] [] _ (SlM.nil (M := M)).rd (SlM.nil (M := M)).rd) ?_
 rintro _ _ ⟨rfl,rfl⟩
 rw [decide_eq_true rfl]
 refine Q.r ?_;(repeat (intro b1;refine Q.r ?_))
 refine S.cr rfl (NWake _) ?_
 rintro _ _ ⟨rfl,rfl⟩
 refine Q.r ?_;(repeat (intro b1;refine Q.r ?_))
 refine S.cr rfl (Lmail_spec none 0 [] _ (SlM.nil0 (M := M)).rd (Nat.zero_le _)) ?_
 rintro _ _ ⟨a6,c6,rfl,rfl⟩
 refine opsS_ent (L' := roM M :: L) (by exact Go.SX.Ent.go) ?_
 refine Q.r ?_;(repeat (intro b1;refine Q.r ?_))
 refine S.cr rfl (NRWake _) ?_
 rintro _ _ ⟨rfl,rfl⟩
 refine Q.r ?_;(repeat (intro b1;refine Q.r ?_))
 refine S.cr rfl (SameMail_spec a6 c6 [] none 0 [] _ (okMs.nil (M := M)).rdM0 (okMs.nil (M := M)).rdM0 (Nat.zero_le _) rfl) ?_
 rintro _ _ ⟨rfl,rfl⟩
 refine Q.r ?_;(repeat (intro b1;refine Q.r ?_))
 refine S.cr rfl (NQuit _) ?_
 rintro _ _ ⟨rfl,rfl⟩
 refine Q.r ?_;(repeat (intro b1;refine Q.r ?_))
 refine S.cr rfl (Nplan M _) ?_
 rintro _ _ ⟨b1,d1,b2,d2,b3,d3,b4,d4,b5,d5,rfl,rfl⟩
 refine Q.r ?_;(repeat (intro b1;refine Q.r ?_))
 refine S.cr rfl (NRQuit _) ?_
 rintro _ _ ⟨rfl,rfl⟩
 refine Q.r ?_;(repeat (intro b1;refine Q.r ?_))
 refine S.cr rfl (NSamePlan b1 d1 b2 d2 b3 d3 b4 d4 b5 d5 M _) ?_
 rintro _ _ ⟨rfl,rfl⟩
 refine Q.r ?_;(repeat (intro b1;refine Q.r ?_))
 refine S.cr rfl (NTrials _) ?_
 rintro _ _ ⟨rfl,rfl⟩
 refine Q.r ?_;(repeat (intro b1;refine Q.r ?_))
 refine S.cr rfl (NDone b _) ?_
 rintro _ _ ⟨rfl,rfl⟩
 refine Q.r ?_;(repeat (intro b1;refine Q.r ?_))
 refine S.cr rfl (NEpoch _) ?_
 rintro _ _ ⟨rfl,rfl⟩
 refine Q.r ?_;(repeat (intro b1;refine Q.r ?_))
 refine S.cr rfl (NLast _) ?_
 rintro _ _ ⟨rfl,rfl⟩
 refine Q.r ?_;(repeat (intro b1;refine Q.r ?_))
 refine S.y (Y.add rfl rfl) ?_
 rw [show IntKind.u64.wrap (0 + 0) = 0 from wrap_u64 (by decide) (by decide)]
 refine Q.r ?_;(repeat (intro b1;refine Q.r ?_))
 exact N.r1 (RV.tmp rfl RV.nil) (Ent.refl _) ⟨by rw [decide_eq_true rfl],rfl⟩
set_option maxHeartbeats 8000000 in
theorem Nstep (o : GO) (M : Nat → Option Obj) (L : List HP) (ho : GOK M o) :
  CallsS Tryz.prog 10 [nP,nP,.agg o.cells.toArray] (roM M :: L) (fun r L' => ∃ M',r = .bool true ∧ leM M M' ∧ L' = roM M' :: L) := by
 refine CallsS.of_body Tryz.func10 rfl rfl rfl ?_
 refine Q.r ?_;(repeat (intro b1;refine Q.r ?_))
 revert b1
 intro bo
 refine S.cmG (args := [o.n.val]) rfl (NFew_spec o.n M _ ho.n ho.c) ?_
 rintro _ _ ⟨n1,M1,rfl,hl1,hn1,hc1,hoc1,he1,rfl⟩
 have hN1 := few_OkN he1
 refine Q.r ?_;(repeat (intro b1;refine Q.r ?_))
 revert b1
 intro b7
 refine S.cmG (args := [n1.val]) rfl (NFew_spec n1 M1 _ hn1 hc1) ?_
 rintro _ _ ⟨n2,M2,rfl,hl2,hn2,hc2,hoc2,he2,rfl⟩
 have he21 : n2.abs = n1.abs := by rw [he2,he1,few_few]
 have hN2 := few_OkN he2
 have hM2 := hl1.trans hl2
 refine Q.r ?_;(repeat (intro b1;refine Q.r ?_))
 revert b1
 intro b8
 refine S.y (Y.rem rfl rfl (by decide)) ?_
 rw [Int.tmod_eq_emod_of_nonneg ho.dd.1]
 have hd0 : 0 ≤ o.d % 11 := Int.emod_nonneg _ (by decide)
 by_cases h8 : o.d % 11 = 8
 ·refine Q.r ?_;(repeat (intro b1;refine Q.r ?_))
  refine Q.dgo [true,false,true] [2,5,10] [] [0,1,3,4,2,5,6,7,8,9,10,11,12] ?_
  refine Q.rd ?_;(repeat (intro b1;refine Q.rd ?_))
  refine D.e rfl rfl rfl ?_
  refine S.cr (args := [nP,n2.val]) rfl (NApply n2 _) ?_
  rintro _ _ ⟨rfl,rfl⟩
  refine Q.r ?_;(repeat (intro b1;refine Q.r ?_))
  refine Q.rd ?_;(repeat (intro b1;refine Q.rd ?_))
  refine D.e rfl rfl rfl ?_
  refine S.cr (args := [nP,n1.val]) rfl (NRApply n1 _) ?_
  rintro _ _ ⟨rfl,rfl⟩
  refine Q.r ?_;(repeat (intro b1;refine Q.r ?_))
  refine Q.rd ?_;(repeat (intro b1;refine Q.rd ?_))
  refine D.e rfl rfl rfl ?_
  refine S.guard rfl ?_
  refine S.cr (args := [n2.val,n1.val]) rfl (Same12_spec n2 n1 _ hn2.rd (hn1.mono hl2).rd hN2 hN1 he21) ?_
  rintro _ _ ⟨rfl,rfl⟩
  refine Q.r ?_;(repeat (intro b1;refine Q.r ?_))
  refine Q.rd ?_;(repeat (intro b1;refine Q.rd ?_))
  refine Q.r ?_;(repeat (intro b1;refine Q.r ?_))
  refine N.r1 (RV.tmp rfl RV.nil) ?_ ⟨M2,rfl,hM2,rfl⟩
  exact Go.SX.Ent.go
 by_cases h9 : o.d % 11 = 9
 ·refine Q.r ?_;(repeat (intro b1;refine Q.r ?_))
  refine S.cr rfl (NQuit _) ?_
  rintro _ _ ⟨rfl,rfl⟩
  refine Q.r ?_;(repeat (intro b1;refine Q.r ?_))
  refine S.y (Y.fld rfl rfl rfl) ?_
  refine Q.r ?_;(repeat (intro b1;refine Q.r ?_))
  refine S.cmG (args := [nP,nP,.slice none 0 0]) rfl (Napply none 0 [] M2 _ okNs.nil (Nat.zero_le _)) ?_
  rintro _ _ ⟨rfl,rfl⟩
  refine Q.r ?_;(repeat (intro b1;refine Q.r ?_))
  refine N.r1 (RV.tmp rfl RV.nil) ?_ ⟨M2,rfl,hM2,rfl⟩
  exact Go.SX.Ent.go
 by_cases h10 : o.d % 11 = 10
 ·refine Q.r ?_;(repeat (intro b1;refine Q.r ?_))
  refine S.cr rfl (NEpoch _) ?_
  rintro _ _ ⟨rfl,rfl⟩
  refine Q.r ?_;(repeat (intro b1;refine Q.r ?_))
  refine S.y (Y.add rfl rfl) ?_
  rw [show IntKind.u64.wrap (0 + 1) = 1 from wrap_u64 (by decide) (by decide)]
  refine Q.r ?_;(repeat (intro b1;refine Q.r ?_))
  refine opsS_ent (slO_fold (sz := 16) (m := 1) rfl) ?_
  refine opsS_abs (some ⟨b1,0,none⟩) (fun M3 hl3 hs3 => ?_)
  refine S.cmG (args := [nP,nP,.slice (some ⟨b1,0,none⟩) 1 1]) rfl (Napply (some ⟨b1,0,none⟩) 1 [(epochN 1).nv] M3 _ ⟨hs3,fun m hm => (by rw [List.mem_singleton.1 hm];exact okN.nv _)⟩ (show 1 ≤ 1000000 by decide)) ?_
  rintro _ _ ⟨rfl,rfl⟩
  refine Q.r ?_;(repeat (intro b1;refine Q.r ?_))
  refine N.r1 (RV.tmp rfl RV.nil) ?_ ⟨M3,rfl,hM2.trans hl3,rfl⟩
  exact Go.SX.Ent.go
 refine Q.r ?_;(repeat (intro b1;refine Q.r ?_))
 refine swp_cutT (σ := Nat × Nat) (fun s => [(0,nP),(1,nP),(5,.pointer (some ⟨bo,0,none⟩)),(7,.pointer (some ⟨b7,0,none⟩)),(8,.pointer (some ⟨b8,0,none⟩)),(9,.pointer (some ⟨s.1,0,none⟩)),(10,.pointer (some ⟨s.2,0,none⟩))])
  (fun s => p50 s.1 none 0 0 none 0 0 none 0 0 none 0 0 none 0 0 :: p88 s.2 none 0 0 none 0 0 none 0 0 none 0 0 none 0 0 :: pt b8 (cl n2.cells 52) :: pt b7 (cl n1.cells 39) :: pt bo (cl o.cells 41) :: roM M2 :: L) (fun _ => True) ?_ ?_
 ·
  refine Q.dgo [true,false,true,true] [4,9,10,11,12,13] [] [0,1,2,3,5,6,7,8,99999,0,0,0,0,0] ?_
  repeat (first | refine D.endA ?_ | refine Q.dp rfl rfl rfl ?_ | refine Q.dy rfl rfl rfl ?_ | refine D.end_ ?_ | refine Q.endH ?_ | (refine D.e rfl rfl rfl ?_;(first | refine S.gskip1 rfl ?_ | refine S.gskip rfl ?_ | refine S.y (Y.gskipU rfl) ?_);refine opsS_nil ?_;refine N.tn ?_))
  refine D.three 4 10 11 [99999,0,0,0,0] [99999,0,0,0,0] [99999,0,0,0,0] (by kernel_rfl) rfl rfl rfl rfl rfl rfl (by kernel_rfl) (by kernel_rfl) (by kernel_rfl) ?_ ?_ ?_
  ·refine S.cr (args := [nP,.int .i64 o.fr,n2.val]) rfl (NPlan n2 o.fr _) ?_
   rintro _ _ ⟨rfl,rfl⟩
   refine Q.r ?_;(repeat (intro b1;refine Q.r ?_))
   repeat (first | refine D.endA ?_ | refine Q.dp rfl rfl rfl ?_ | refine Q.dy rfl rfl rfl ?_ | refine D.end_ ?_ | refine Q.endH ?_ | (refine D.e rfl rfl rfl ?_;(first | refine S.gskip1 rfl ?_ | refine S.gskip rfl ?_ | refine S.y (Y.gskipU rfl) ?_);refine opsS_nil ?_;refine N.tn ?_))
   refine D.three 9 10 11 [99999,0,0,0] [99999,0,0,0] [99999,0,0,0] (by kernel_rfl) rfl rfl rfl rfl rfl rfl (by kernel_rfl) (by kernel_rfl) (by kernel_rfl) ?_ ?_ ?_
   ·refine S.cr (args := [nP,.int .i64 o.fr,n1.val]) rfl (NDo n1 o.fr _) ?_
    rintro _ _ ⟨rfl,rfl⟩
    refine Q.r ?_;(repeat (intro b1;refine Q.r ?_))
    repeat (first | refine D.endA ?_ | refine Q.dp rfl rfl rfl ?_ | refine Q.dy rfl rfl rfl ?_ | refine D.end_ ?_ | refine Q.endH ?_ | (refine D.e rfl rfl rfl ?_;(first | refine S.gskip1 rfl ?_ | refine S.gskip rfl ?_ | refine S.y (Y.gskipU rfl) ?_);refine opsS_nil ?_;refine N.tn ?_))
    refine D.two 10 11 [11,12,13] [10,12,13] (by kernel_rfl) rfl rfl rfl rfl (by kernel_rfl) (by kernel_rfl) ?_ ?_
    ·refine GQ.a ?_
     refine Q.al (fun b9 => ?_)
     refine Q.r ?_;(repeat (intro b1;refine Q.r ?_))
     repeat (first | refine D.endA ?_ | refine Q.dp rfl rfl rfl ?_ | refine Q.dy rfl rfl rfl ?_ | refine D.end_ ?_ | refine Q.endH ?_ | (refine D.e rfl rfl rfl ?_;(first | refine S.gskip1 rfl ?_ | refine S.gskip rfl ?_ | refine S.y (Y.gskipU rfl) ?_);refine opsS_nil ?_;refine N.tn ?_))
     refine D.e rfl rfl rfl ?_
     refine GQ.a ?_
     refine Q.al (fun b10 => ?_)
     refine Q.r ?_;(repeat (intro b1;refine Q.r ?_))
     repeat (first | refine D.endA ?_ | refine Q.dp rfl rfl rfl ?_ | refine Q.dy rfl rfl rfl ?_ | refine D.end_ ?_ | refine Q.endH ?_ | (refine D.e rfl rfl rfl ?_;(first | refine S.gskip1 rfl ?_ | refine S.gskip rfl ?_ | refine S.y (Y.gskipU rfl) ?_);refine opsS_nil ?_;refine N.tn ?_))
     refine D.e rfl rfl rfl ?_
     refine Q.r ?_;(repeat (intro b1;refine Q.r ?_))
     repeat (first | refine D.endA ?_ | refine Q.dp rfl rfl rfl ?_ | refine Q.dy rfl rfl rfl ?_ | refine D.end_ ?_ | refine Q.endH ?_ | (refine D.e rfl rfl rfl ?_;(first | refine S.gskip1 rfl ?_ | refine S.gskip rfl ?_ | refine S.y (Y.gskipU rfl) ?_);refine opsS_nil ?_;refine N.tn ?_))
     refine D.e rfl rfl rfl ?_
     refine Q.r ?_;(repeat (intro b1;refine Q.r ?_))
     repeat (first | refine D.endA ?_ | refine Q.dp rfl rfl rfl ?_ | refine Q.dy rfl rfl rfl ?_ | refine D.end_ ?_ | refine Q.endH ?_ | (refine D.e rfl rfl rfl ?_;(first | refine S.gskip1 rfl ?_ | refine S.gskip rfl ?_ | refine S.y (Y.gskipU rfl) ?_);refine opsS_nil ?_;refine N.tn ?_))
     repeat (first | refine D.endA ?_ | refine Q.dp rfl rfl rfl ?_ | refine Q.dy rfl rfl rfl ?_ | refine D.end_ ?_ | refine Q.endH ?_ | (refine D.e rfl rfl rfl ?_;(first | refine S.gskip1 rfl ?_ | refine S.gskip rfl ?_ | refine S.y (Y.gskipU rfl) ?_);refine opsS_nil ?_;refine N.tn ?_))
     refine N.tn ⟨(b9,b10),⟨rfl,rfl,rfl,rfl,rfl,rfl,rfl,trivial⟩,?_,trivial⟩
     (try dsimp only);exact Go.SX.Ent.go
    ·refine GQ.a ?_
     refine Q.al (fun b10 => ?_)
     refine Q.r ?_;(repeat (intro b1;refine Q.r ?_))
     repeat (first | refine D.endA ?_ | refine Q.dp rfl rfl rfl ?_ | refine Q.dy rfl rfl rfl ?_ | refine D.end_ ?_ | refine Q.endH ?_ | (refine D.e rfl rfl rfl ?_;(first | refine S.gskip1 rfl ?_ | refine S.gskip rfl ?_ | refine S.y (Y.gskipU rfl) ?_);refine opsS_nil ?_;refine N.tn ?_))
     refine D.e rfl rfl rfl ?_
     refine GQ.a ?_
     refine Q.al (fun b9 => ?_)
     refine Q.r ?_;(repeat (intro b1;refine Q.r ?_))
     repeat (first | refine D.endA ?_ | refine Q.dp rfl rfl rfl ?_ | refine Q.dy rfl rfl rfl ?_ | refine D.end_ ?_ | refine Q.endH ?_ | (refine D.e rfl rfl rfl ?_;(first | refine S.gskip1 rfl ?_ | refine S.gskip rfl ?_ | refine S.y (Y.gskipU rfl) ?_);refine opsS_nil ?_;refine N.tn ?_))
     refine D.e rfl rfl rfl ?_
     refine Q.r ?_;(repeat (intro b1;refine Q.r ?_))
     repeat (first | refine D.endA ?_ | refine Q.dp rfl rfl rfl ?_ | refine Q.dy rfl rfl rfl ?_ | refine D.end_ ?_ | refine Q.endH ?_ | (refine D.e rfl rfl rfl ?_;(first | refine S.gskip1 rfl ?_ | refine S.gskip rfl ?_ | refine S.y (Y.gskipU rfl) ?_);refine opsS_nil ?_;refine N.tn ?_))
     refine D.e rfl rfl rfl ?_
     refine Q.r ?_;(repeat (intro b1;refine Q.r ?_))
     repeat (first | refine D.endA ?_ | refine Q.dp rfl rfl rfl ?_ | refine Q.dy rfl rfl rfl ?_ | refine D.end_ ?_ | refine Q.endH ?_ | (refine D.e rfl rfl rfl ?_;(first | refine S.gskip1 rfl ?_ | refine S.gskip rfl ?_ | refine S.y (Y.gskipU rfl) ?_);refine opsS_nil ?_;refine N.tn ?_))
     repeat (first | refine D.endA ?_ | refine Q.dp rfl rfl rfl ?_ | refine Q.dy rfl rfl rfl ?_ | refine D.end_ ?_ | refine Q.endH ?_ | (refine D.e rfl rfl rfl ?_;(first | refine S.gskip1 rfl ?_ | refine S.gskip rfl ?_ | refine S.y (Y.gskipU rfl) ?_);refine opsS_nil ?_;refine N.tn ?_))
     refine N.tn ⟨(b9,b10),⟨rfl,rfl,rfl,rfl,rfl,rfl,rfl,trivial⟩,?_,trivial⟩
     (try dsimp only);exact Go.SX.Ent.go
   ·refine GQ.a ?_
    refine Q.al (fun b9 => ?_)
    refine Q.r ?_;(repeat (intro b1;refine Q.r ?_))
    repeat (first | refine D.endA ?_ | refine Q.dp rfl rfl rfl ?_ | refine Q.dy rfl rfl rfl ?_ | refine D.end_ ?_ | refine Q.endH ?_ | (refine D.e rfl rfl rfl ?_;(first | refine S.gskip1 rfl ?_ | refine S.gskip rfl ?_ | refine S.y (Y.gskipU rfl) ?_);refine opsS_nil ?_;refine N.tn ?_))
    refine D.two 9 11 [11,12,13] [9,12,13] (by kernel_rfl) rfl rfl rfl rfl (by kernel_rfl) (by kernel_rfl) ?_ ?_
    ·refine S.cr (args := [nP,.int .i64 o.fr,n1.val]) rfl (NDo n1 o.fr _) ?_
     rintro _ _ ⟨rfl,rfl⟩
     refine Q.r ?_;(repeat (intro b1;refine Q.r ?_))
     repeat (first | refine D.endA ?_ | refine Q.dp rfl rfl rfl ?_ | refine Q.dy rfl rfl rfl ?_ | refine D.end_ ?_ | refine Q.endH ?_ | (refine D.e rfl rfl rfl ?_;(first | refine S.gskip1 rfl ?_ | refine S.gskip rfl ?_ | refine S.y (Y.gskipU rfl) ?_);refine opsS_nil ?_;refine N.tn ?_))
     refine D.e rfl rfl rfl ?_
     refine GQ.a ?_
     refine Q.al (fun b10 => ?_)
     refine Q.r ?_;(repeat (intro b1;refine Q.r ?_))
     repeat (first | refine D.endA ?_ | refine Q.dp rfl rfl rfl ?_ | refine Q.dy rfl rfl rfl ?_ | refine D.end_ ?_ | refine Q.endH ?_ | (refine D.e rfl rfl rfl ?_;(first | refine S.gskip1 rfl ?_ | refine S.gskip rfl ?_ | refine S.y (Y.gskipU rfl) ?_);refine opsS_nil ?_;refine N.tn ?_))
     refine D.e rfl rfl rfl ?_
     refine Q.r ?_;(repeat (intro b1;refine Q.r ?_))
     repeat (first | refine D.endA ?_ | refine Q.dp rfl rfl rfl ?_ | refine Q.dy rfl rfl rfl ?_ | refine D.end_ ?_ | refine Q.endH ?_ | (refine D.e rfl rfl rfl ?_;(first | refine S.gskip1 rfl ?_ | refine S.gskip rfl ?_ | refine S.y (Y.gskipU rfl) ?_);refine opsS_nil ?_;refine N.tn ?_))
     refine D.e rfl rfl rfl ?_
     refine Q.r ?_;(repeat (intro b1;refine Q.r ?_))
     repeat (first | refine D.endA ?_ | refine Q.dp rfl rfl rfl ?_ | refine Q.dy rfl rfl rfl ?_ | refine D.end_ ?_ | refine Q.endH ?_ | (refine D.e rfl rfl rfl ?_;(first | refine S.gskip1 rfl ?_ | refine S.gskip rfl ?_ | refine S.y (Y.gskipU rfl) ?_);refine opsS_nil ?_;refine N.tn ?_))
     repeat (first | refine D.endA ?_ | refine Q.dp rfl rfl rfl ?_ | refine Q.dy rfl rfl rfl ?_ | refine D.end_ ?_ | refine Q.endH ?_ | (refine D.e rfl rfl rfl ?_;(first | refine S.gskip1 rfl ?_ | refine S.gskip rfl ?_ | refine S.y (Y.gskipU rfl) ?_);refine opsS_nil ?_;refine N.tn ?_))
     refine N.tn ⟨(b9,b10),⟨rfl,rfl,rfl,rfl,rfl,rfl,rfl,trivial⟩,?_,trivial⟩
     (try dsimp only);exact Go.SX.Ent.go
    ·refine GQ.a ?_
     refine Q.al (fun b10 => ?_)
     refine Q.r ?_;(repeat (intro b1;refine Q.r ?_))
     repeat (first | refine D.endA ?_ | refine Q.dp rfl rfl rfl ?_ | refine Q.dy rfl rfl rfl ?_ | refine D.end_ ?_ | refine Q.endH ?_ | (refine D.e rfl rfl rfl ?_;(first | refine S.gskip1 rfl ?_ | refine S.gskip rfl ?_ | refine S.y (Y.gskipU rfl) ?_);refine opsS_nil ?_;refine N.tn ?_))
     refine D.e rfl rfl rfl ?_
     refine S.cr (args := [nP,.int .i64 o.fr,n1.val]) rfl (NDo n1 o.fr _) ?_
     rintro _ _ ⟨rfl,rfl⟩
     refine Q.r ?_;(repeat (intro b1;refine Q.r ?_))
     repeat (first | refine D.endA ?_ | refine Q.dp rfl rfl rfl ?_ | refine Q.dy rfl rfl rfl ?_ | refine D.end_ ?_ | refine Q.endH ?_ | (refine D.e rfl rfl rfl ?_;(first | refine S.gskip1 rfl ?_ | refine S.gskip rfl ?_ | refine S.y (Y.gskipU rfl) ?_);refine opsS_nil ?_;refine N.tn ?_))
     refine D.e rfl rfl rfl ?_
     refine Q.r ?_;(repeat (intro b1;refine Q.r ?_))
     repeat (first | refine D.endA ?_ | refine Q.dp rfl rfl rfl ?_ | refine Q.dy rfl rfl rfl ?_ | refine D.end_ ?_ | refine Q.endH ?_ | (refine D.e rfl rfl rfl ?_;(first | refine S.gskip1 rfl ?_ | refine S.gskip rfl ?_ | refine S.y (Y.gskipU rfl) ?_);refine opsS_nil ?_;refine N.tn ?_))
     refine D.e rfl rfl rfl ?_
     refine Q.r ?_;(repeat (intro b1;refine Q.r ?_))
     repeat (first | refine D.endA ?_ | refine Q.dp rfl rfl rfl ?_ | refine Q.dy rfl rfl rfl ?_ | refine D.end_ ?_ | refine Q.endH ?_ | (refine D.e rfl rfl rfl ?_;(first | refine S.gskip1 rfl ?_ | refine S.gskip rfl ?_ | refine S.y (Y.gskipU rfl) ?_);refine opsS_nil ?_;refine N.tn ?_))
     repeat (first | refine D.endA ?_ | refine Q.dp rfl rfl rfl ?_ | refine Q.dy rfl rfl rfl ?_ | refine D.end_ ?_ | refine Q.endH ?_ | (refine D.e rfl rfl rfl ?_;(first | refine S.gskip1 rfl ?_ | refine S.gskip rfl ?_ | refine S.y (Y.gskipU rfl) ?_);refine opsS_nil ?_;refine N.tn ?_))
     refine N.tn ⟨(b9,b10),⟨rfl,rfl,rfl,rfl,rfl,rfl,rfl,trivial⟩,?_,trivial⟩
     (try dsimp only);exact Go.SX.Ent.go
   ·refine GQ.a ?_
    refine Q.al (fun b10 => ?_)
    refine Q.r ?_;(repeat (intro b1;refine Q.r ?_))
    repeat (first | refine D.endA ?_ | refine Q.dp rfl rfl rfl ?_ | refine Q.dy rfl rfl rfl ?_ | refine D.end_ ?_ | refine Q.endH ?_ | (refine D.e rfl rfl rfl ?_;(first | refine S.gskip1 rfl ?_ | refine S.gskip rfl ?_ | refine S.y (Y.gskipU rfl) ?_);refine opsS_nil ?_;refine N.tn ?_))
    refine D.two 9 10 [10,12,13] [9,12,13] (by kernel_rfl) rfl rfl rfl rfl (by kernel_rfl) (by kernel_rfl) ?_ ?_
    ·refine S.cr (args := [nP,.int .i64 o.fr,n1.val]) rfl (NDo n1 o.fr _) ?_
     rintro _ _ ⟨rfl,rfl⟩
     refine Q.r ?_;(repeat (intro b1;refine Q.r ?_))
     repeat (first | refine D.endA ?_ | refine Q.dp rfl rfl rfl ?_ | refine Q.dy rfl rfl rfl ?_ | refine D.end_ ?_ | refine Q.endH ?_ | (refine D.e rfl rfl rfl ?_;(first | refine S.gskip1 rfl ?_ | refine S.gskip rfl ?_ | refine S.y (Y.gskipU rfl) ?_);refine opsS_nil ?_;refine N.tn ?_))
     refine D.e rfl rfl rfl ?_
     refine GQ.a ?_
     refine Q.al (fun b9 => ?_)
     refine Q.r ?_;(repeat (intro b1;refine Q.r ?_))
     repeat (first | refine D.endA ?_ | refine Q.dp rfl rfl rfl ?_ | refine Q.dy rfl rfl rfl ?_ | refine D.end_ ?_ | refine Q.endH ?_ | (refine D.e rfl rfl rfl ?_;(first | refine S.gskip1 rfl ?_ | refine S.gskip rfl ?_ | refine S.y (Y.gskipU rfl) ?_);refine opsS_nil ?_;refine N.tn ?_))
     refine D.e rfl rfl rfl ?_
     refine Q.r ?_;(repeat (intro b1;refine Q.r ?_))
     repeat (first | refine D.endA ?_ | refine Q.dp rfl rfl rfl ?_ | refine Q.dy rfl rfl rfl ?_ | refine D.end_ ?_ | refine Q.endH ?_ | (refine D.e rfl rfl rfl ?_;(first | refine S.gskip1 rfl ?_ | refine S.gskip rfl ?_ | refine S.y (Y.gskipU rfl) ?_);refine opsS_nil ?_;refine N.tn ?_))
     refine D.e rfl rfl rfl ?_
     refine Q.r ?_;(repeat (intro b1;refine Q.r ?_))
     repeat (first | refine D.endA ?_ | refine Q.dp rfl rfl rfl ?_ | refine Q.dy rfl rfl rfl ?_ | refine D.end_ ?_ | refine Q.endH ?_ | (refine D.e rfl rfl rfl ?_;(first | refine S.gskip1 rfl ?_ | refine S.gskip rfl ?_ | refine S.y (Y.gskipU rfl) ?_);refine opsS_nil ?_;refine N.tn ?_))
     repeat (first | refine D.endA ?_ | refine Q.dp rfl rfl rfl ?_ | refine Q.dy rfl rfl rfl ?_ | refine D.end_ ?_ | refine Q.endH ?_ | (refine D.e rfl rfl rfl ?_;(first | refine S.gskip1 rfl ?_ | refine S.gskip rfl ?_ | refine S.y (Y.gskipU rfl) ?_);refine opsS_nil ?_;refine N.tn ?_))
     refine N.tn ⟨(b9,b10),⟨rfl,rfl,rfl,rfl,rfl,rfl,rfl,trivial⟩,?_,trivial⟩
     (try dsimp only);exact Go.SX.Ent.go
    ·refine GQ.a ?_
     refine Q.al (fun b9 => ?_)
     refine Q.r ?_;(repeat (intro b1;refine Q.r ?_))
     repeat (first | refine D.endA ?_ | refine Q.dp rfl rfl rfl ?_ | refine Q.dy rfl rfl rfl ?_ | refine D.end_ ?_ | refine Q.endH ?_ | (refine D.e rfl rfl rfl ?_;(first | refine S.gskip1 rfl ?_ | refine S.gskip rfl ?_ | refine S.y (Y.gskipU rfl) ?_);refine opsS_nil ?_;refine N.tn ?_))
     refine D.e rfl rfl rfl ?_
     refine S.cr (args := [nP,.int .i64 o.fr,n1.val]) rfl (NDo n1 o.fr _) ?_
     rintro _ _ ⟨rfl,rfl⟩
     refine Q.r ?_;(repeat (intro b1;refine Q.r ?_))
     repeat (first | refine D.endA ?_ | refine Q.dp rfl rfl rfl ?_ | refine Q.dy rfl rfl rfl ?_ | refine D.end_ ?_ | refine Q.endH ?_ | (refine D.e rfl rfl rfl ?_;(first | refine S.gskip1 rfl ?_ | refine S.gskip rfl ?_ | refine S.y (Y.gskipU rfl) ?_);refine opsS_nil ?_;refine N.tn ?_))
     refine D.e rfl rfl rfl ?_
     refine Q.r ?_;(repeat (intro b1;refine Q.r ?_))
     repeat (first | refine D.endA ?_ | refine Q.dp rfl rfl rfl ?_ | refine Q.dy rfl rfl rfl ?_ | refine D.end_ ?_ | refine Q.endH ?_ | (refine D.e rfl rfl rfl ?_;(first | refine S.gskip1 rfl ?_ | refine S.gskip rfl ?_ | refine S.y (Y.gskipU rfl) ?_);refine opsS_nil ?_;refine N.tn ?_))
     refine D.e rfl rfl rfl ?_
     refine Q.r ?_;(repeat (intro b1;refine Q.r ?_))
     repeat (first | refine D.endA ?_ | refine Q.dp rfl rfl rfl ?_ | refine Q.dy rfl rfl rfl ?_ | refine D.end_ ?_ | refine Q.endH ?_ | (refine D.e rfl rfl rfl ?_;(first | refine S.gskip1 rfl ?_ | refine S.gskip rfl ?_ | refine S.y (Y.gskipU rfl) ?_);refine opsS_nil ?_;refine N.tn ?_))
     repeat (first | refine D.endA ?_ | refine Q.dp rfl rfl rfl ?_ | refine Q.dy rfl rfl rfl ?_ | refine D.end_ ?_ | refine Q.endH ?_ | (refine D.e rfl rfl rfl ?_;(first | refine S.gskip1 rfl ?_ | refine S.gskip rfl ?_ | refine S.y (Y.gskipU rfl) ?_);refine opsS_nil ?_;refine N.tn ?_))
     refine N.tn ⟨(b9,b10),⟨rfl,rfl,rfl,rfl,rfl,rfl,rfl,trivial⟩,?_,trivial⟩
     (try dsimp only);exact Go.SX.Ent.go
  ·refine GQ.a ?_
   refine Q.al (fun b9 => ?_)
   refine Q.r ?_;(repeat (intro b1;refine Q.r ?_))
   repeat (first | refine D.endA ?_ | refine Q.dp rfl rfl rfl ?_ | refine Q.dy rfl rfl rfl ?_ | refine D.end_ ?_ | refine Q.endH ?_ | (refine D.e rfl rfl rfl ?_;(first | refine S.gskip1 rfl ?_ | refine S.gskip rfl ?_ | refine S.y (Y.gskipU rfl) ?_);refine opsS_nil ?_;refine N.tn ?_))
   refine D.two 4 11 [99999,0,0,0] [4,9,12,13] (by kernel_rfl) rfl rfl rfl rfl (by kernel_rfl) (by kernel_rfl) ?_ ?_
   ·refine S.cr (args := [nP,.int .i64 o.fr,n2.val]) rfl (NPlan n2 o.fr _) ?_
    rintro _ _ ⟨rfl,rfl⟩
    refine Q.r ?_;(repeat (intro b1;refine Q.r ?_))
    repeat (first | refine D.endA ?_ | refine Q.dp rfl rfl rfl ?_ | refine Q.dy rfl rfl rfl ?_ | refine D.end_ ?_ | refine Q.endH ?_ | (refine D.e rfl rfl rfl ?_;(first | refine S.gskip1 rfl ?_ | refine S.gskip rfl ?_ | refine S.y (Y.gskipU rfl) ?_);refine opsS_nil ?_;refine N.tn ?_))
    refine D.two 9 11 [11,12,13] [9,12,13] (by kernel_rfl) rfl rfl rfl rfl (by kernel_rfl) (by kernel_rfl) ?_ ?_
    ·refine S.cr (args := [nP,.int .i64 o.fr,n1.val]) rfl (NDo n1 o.fr _) ?_
     rintro _ _ ⟨rfl,rfl⟩
     refine Q.r ?_;(repeat (intro b1;refine Q.r ?_))
     repeat (first | refine D.endA ?_ | refine Q.dp rfl rfl rfl ?_ | refine Q.dy rfl rfl rfl ?_ | refine D.end_ ?_ | refine Q.endH ?_ | (refine D.e rfl rfl rfl ?_;(first | refine S.gskip1 rfl ?_ | refine S.gskip rfl ?_ | refine S.y (Y.gskipU rfl) ?_);refine opsS_nil ?_;refine N.tn ?_))
     refine D.e rfl rfl rfl ?_
     refine GQ.a ?_
     refine Q.al (fun b10 => ?_)
     refine Q.r ?_;(repeat (intro b1;refine Q.r ?_))
     repeat (first | refine D.endA ?_ | refine Q.dp rfl rfl rfl ?_ | refine Q.dy rfl rfl rfl ?_ | refine D.end_ ?_ | refine Q.endH ?_ | (refine D.e rfl rfl rfl ?_;(first | refine S.gskip1 rfl ?_ | refine S.gskip rfl ?_ | refine S.y (Y.gskipU rfl) ?_);refine opsS_nil ?_;refine N.tn ?_))
     refine D.e rfl rfl rfl ?_
     refine Q.r ?_;(repeat (intro b1;refine Q.r ?_))
     repeat (first | refine D.endA ?_ | refine Q.dp rfl rfl rfl ?_ | refine Q.dy rfl rfl rfl ?_ | refine D.end_ ?_ | refine Q.endH ?_ | (refine D.e rfl rfl rfl ?_;(first | refine S.gskip1 rfl ?_ | refine S.gskip rfl ?_ | refine S.y (Y.gskipU rfl) ?_);refine opsS_nil ?_;refine N.tn ?_))
     refine D.e rfl rfl rfl ?_
     refine Q.r ?_;(repeat (intro b1;refine Q.r ?_))
     repeat (first | refine D.endA ?_ | refine Q.dp rfl rfl rfl ?_ | refine Q.dy rfl rfl rfl ?_ | refine D.end_ ?_ | refine Q.endH ?_ | (refine D.e rfl rfl rfl ?_;(first | refine S.gskip1 rfl ?_ | refine S.gskip rfl ?_ | refine S.y (Y.gskipU rfl) ?_);refine opsS_nil ?_;refine N.tn ?_))
     repeat (first | refine D.endA ?_ | refine Q.dp rfl rfl rfl ?_ | refine Q.dy rfl rfl rfl ?_ | refine D.end_ ?_ | refine Q.endH ?_ | (refine D.e rfl rfl rfl ?_;(first | refine S.gskip1 rfl ?_ | refine S.gskip rfl ?_ | refine S.y (Y.gskipU rfl) ?_);refine opsS_nil ?_;refine N.tn ?_))
     refine N.tn ⟨(b9,b10),⟨rfl,rfl,rfl,rfl,rfl,rfl,rfl,trivial⟩,?_,trivial⟩
     (try dsimp only);exact Go.SX.Ent.go
    ·refine GQ.a ?_
     refine Q.al (fun b10 => ?_)
     refine Q.r ?_;(repeat (intro b1;refine Q.r ?_))
     repeat (first | refine D.endA ?_ | refine Q.dp rfl rfl rfl ?_ | refine Q.dy rfl rfl rfl ?_ | refine D.end_ ?_ | refine Q.endH ?_ | (refine D.e rfl rfl rfl ?_;(first | refine S.gskip1 rfl ?_ | refine S.gskip rfl ?_ | refine S.y (Y.gskipU rfl) ?_);refine opsS_nil ?_;refine N.tn ?_))
     refine D.e rfl rfl rfl ?_
     refine S.cr (args := [nP,.int .i64 o.fr,n1.val]) rfl (NDo n1 o.fr _) ?_
     rintro _ _ ⟨rfl,rfl⟩
     refine Q.r ?_;(repeat (intro b1;refine Q.r ?_))
     repeat (first | refine D.endA ?_ | refine Q.dp rfl rfl rfl ?_ | refine Q.dy rfl rfl rfl ?_ | refine D.end_ ?_ | refine Q.endH ?_ | (refine D.e rfl rfl rfl ?_;(first | refine S.gskip1 rfl ?_ | refine S.gskip rfl ?_ | refine S.y (Y.gskipU rfl) ?_);refine opsS_nil ?_;refine N.tn ?_))
     refine D.e rfl rfl rfl ?_
     refine Q.r ?_;(repeat (intro b1;refine Q.r ?_))
     repeat (first | refine D.endA ?_ | refine Q.dp rfl rfl rfl ?_ | refine Q.dy rfl rfl rfl ?_ | refine D.end_ ?_ | refine Q.endH ?_ | (refine D.e rfl rfl rfl ?_;(first | refine S.gskip1 rfl ?_ | refine S.gskip rfl ?_ | refine S.y (Y.gskipU rfl) ?_);refine opsS_nil ?_;refine N.tn ?_))
     refine D.e rfl rfl rfl ?_
     refine Q.r ?_;(repeat (intro b1;refine Q.r ?_))
     repeat (first | refine D.endA ?_ | refine Q.dp rfl rfl rfl ?_ | refine Q.dy rfl rfl rfl ?_ | refine D.end_ ?_ | refine Q.endH ?_ | (refine D.e rfl rfl rfl ?_;(first | refine S.gskip1 rfl ?_ | refine S.gskip rfl ?_ | refine S.y (Y.gskipU rfl) ?_);refine opsS_nil ?_;refine N.tn ?_))
     repeat (first | refine D.endA ?_ | refine Q.dp rfl rfl rfl ?_ | refine Q.dy rfl rfl rfl ?_ | refine D.end_ ?_ | refine Q.endH ?_ | (refine D.e rfl rfl rfl ?_;(first | refine S.gskip1 rfl ?_ | refine S.gskip rfl ?_ | refine S.y (Y.gskipU rfl) ?_);refine opsS_nil ?_;refine N.tn ?_))
     refine N.tn ⟨(b9,b10),⟨rfl,rfl,rfl,rfl,rfl,rfl,rfl,trivial⟩,?_,trivial⟩
     (try dsimp only);exact Go.SX.Ent.go
   ·refine GQ.a ?_
    refine Q.al (fun b10 => ?_)
    refine Q.r ?_;(repeat (intro b1;refine Q.r ?_))
    repeat (first | refine D.endA ?_ | refine Q.dp rfl rfl rfl ?_ | refine Q.dy rfl rfl rfl ?_ | refine D.end_ ?_ | refine Q.endH ?_ | (refine D.e rfl rfl rfl ?_;(first | refine S.gskip1 rfl ?_ | refine S.gskip rfl ?_ | refine S.y (Y.gskipU rfl) ?_);refine opsS_nil ?_;refine N.tn ?_))
    refine D.e rfl rfl rfl ?_
    refine S.cr (args := [nP,.int .i64 o.fr,n2.val]) rfl (NPlan n2 o.fr _) ?_
    rintro _ _ ⟨rfl,rfl⟩
    refine Q.r ?_;(repeat (intro b1;refine Q.r ?_))
    repeat (first | refine D.endA ?_ | refine Q.dp rfl rfl rfl ?_ | refine Q.dy rfl rfl rfl ?_ | refine D.end_ ?_ | refine Q.endH ?_ | (refine D.e rfl rfl rfl ?_;(first | refine S.gskip1 rfl ?_ | refine S.gskip rfl ?_ | refine S.y (Y.gskipU rfl) ?_);refine opsS_nil ?_;refine N.tn ?_))
    refine D.e rfl rfl rfl ?_
    refine S.cr (args := [nP,.int .i64 o.fr,n1.val]) rfl (NDo n1 o.fr _) ?_
    rintro _ _ ⟨rfl,rfl⟩
    refine Q.r ?_;(repeat (intro b1;refine Q.r ?_))
    repeat (first | refine D.endA ?_ | refine Q.dp rfl rfl rfl ?_ | refine Q.dy rfl rfl rfl ?_ | refine D.end_ ?_ | refine Q.endH ?_ | (refine D.e rfl rfl rfl ?_;(first | refine S.gskip1 rfl ?_ | refine S.gskip rfl ?_ | refine S.y (Y.gskipU rfl) ?_);refine opsS_nil ?_;refine N.tn ?_))
    refine D.e rfl rfl rfl ?_
    refine Q.r ?_;(repeat (intro b1;refine Q.r ?_))
    repeat (first | refine D.endA ?_ | refine Q.dp rfl rfl rfl ?_ | refine Q.dy rfl rfl rfl ?_ | refine D.end_ ?_ | refine Q.endH ?_ | (refine D.e rfl rfl rfl ?_;(first | refine S.gskip1 rfl ?_ | refine S.gskip rfl ?_ | refine S.y (Y.gskipU rfl) ?_);refine opsS_nil ?_;refine N.tn ?_))
    refine D.e rfl rfl rfl ?_
    refine Q.r ?_;(repeat (intro b1;refine Q.r ?_))
    repeat (first | refine D.endA ?_ | refine Q.dp rfl rfl rfl ?_ | refine Q.dy rfl rfl rfl ?_ | refine D.end_ ?_ | refine Q.endH ?_ | (refine D.e rfl rfl rfl ?_;(first | refine S.gskip1 rfl ?_ | refine S.gskip rfl ?_ | refine S.y (Y.gskipU rfl) ?_);refine opsS_nil ?_;refine N.tn ?_))
    repeat (first | refine D.endA ?_ | refine Q.dp rfl rfl rfl ?_ | refine Q.dy rfl rfl rfl ?_ | refine D.end_ ?_ | refine Q.endH ?_ | (refine D.e rfl rfl rfl ?_;(first | refine S.gskip1 rfl ?_ | refine S.gskip rfl ?_ | refine S.y (Y.gskipU rfl) ?_);refine opsS_nil ?_;refine N.tn ?_))
    refine N.tn ⟨(b9,b10),⟨rfl,rfl,rfl,rfl,rfl,rfl,rfl,trivial⟩,?_,trivial⟩
    (try dsimp only);exact Go.SX.Ent.go
  ·refine GQ.a ?_
   refine Q.al (fun b10 => ?_)
   refine Q.r ?_;(repeat (intro b1;refine Q.r ?_))
   repeat (first | refine D.endA ?_ | refine Q.dp rfl rfl rfl ?_ | refine Q.dy rfl rfl rfl ?_ | refine D.end_ ?_ | refine Q.endH ?_ | (refine D.e rfl rfl rfl ?_;(first | refine S.gskip1 rfl ?_ | refine S.gskip rfl ?_ | refine S.y (Y.gskipU rfl) ?_);refine opsS_nil ?_;refine N.tn ?_))
   refine D.two 4 10 [99999,0,0,0] [4,9,12,13] (by kernel_rfl) rfl rfl rfl rfl (by kernel_rfl) (by kernel_rfl) ?_ ?_
   ·refine S.cr (args := [nP,.int .i64 o.fr,n2.val]) rfl (NPlan n2 o.fr _) ?_
    rintro _ _ ⟨rfl,rfl⟩
    refine Q.r ?_;(repeat (intro b1;refine Q.r ?_))
    repeat (first | refine D.endA ?_ | refine Q.dp rfl rfl rfl ?_ | refine Q.dy rfl rfl rfl ?_ | refine D.end_ ?_ | refine Q.endH ?_ | (refine D.e rfl rfl rfl ?_;(first | refine S.gskip1 rfl ?_ | refine S.gskip rfl ?_ | refine S.y (Y.gskipU rfl) ?_);refine opsS_nil ?_;refine N.tn ?_))
    refine D.two 9 10 [10,12,13] [9,12,13] (by kernel_rfl) rfl rfl rfl rfl (by kernel_rfl) (by kernel_rfl) ?_ ?_
    ·refine S.cr (args := [nP,.int .i64 o.fr,n1.val]) rfl (NDo n1 o.fr _) ?_
     rintro _ _ ⟨rfl,rfl⟩
     refine Q.r ?_;(repeat (intro b1;refine Q.r ?_))
     repeat (first | refine D.endA ?_ | refine Q.dp rfl rfl rfl ?_ | refine Q.dy rfl rfl rfl ?_ | refine D.end_ ?_ | refine Q.endH ?_ | (refine D.e rfl rfl rfl ?_;(first | refine S.gskip1 rfl ?_ | refine S.gskip rfl ?_ | refine S.y (Y.gskipU rfl) ?_);refine opsS_nil ?_;refine N.tn ?_))
     refine D.e rfl rfl rfl ?_
     refine GQ.a ?_
     refine Q.al (fun b9 => ?_)
     refine Q.r ?_;(repeat (intro b1;refine Q.r ?_))
     repeat (first | refine D.endA ?_ | refine Q.dp rfl rfl rfl ?_ | refine Q.dy rfl rfl rfl ?_ | refine D.end_ ?_ | refine Q.endH ?_ | (refine D.e rfl rfl rfl ?_;(first | refine S.gskip1 rfl ?_ | refine S.gskip rfl ?_ | refine S.y (Y.gskipU rfl) ?_);refine opsS_nil ?_;refine N.tn ?_))
     refine D.e rfl rfl rfl ?_
     refine Q.r ?_;(repeat (intro b1;refine Q.r ?_))
     repeat (first | refine D.endA ?_ | refine Q.dp rfl rfl rfl ?_ | refine Q.dy rfl rfl rfl ?_ | refine D.end_ ?_ | refine Q.endH ?_ | (refine D.e rfl rfl rfl ?_;(first | refine S.gskip1 rfl ?_ | refine S.gskip rfl ?_ | refine S.y (Y.gskipU rfl) ?_);refine opsS_nil ?_;refine N.tn ?_))
     refine D.e rfl rfl rfl ?_
     refine Q.r ?_;(repeat (intro b1;refine Q.r ?_))
     repeat (first | refine D.endA ?_ | refine Q.dp rfl rfl rfl ?_ | refine Q.dy rfl rfl rfl ?_ | refine D.end_ ?_ | refine Q.endH ?_ | (refine D.e rfl rfl rfl ?_;(first | refine S.gskip1 rfl ?_ | refine S.gskip rfl ?_ | refine S.y (Y.gskipU rfl) ?_);refine opsS_nil ?_;refine N.tn ?_))
     repeat (first | refine D.endA ?_ | refine Q.dp rfl rfl rfl ?_ | refine Q.dy rfl rfl rfl ?_ | refine D.end_ ?_ | refine Q.endH ?_ | (refine D.e rfl rfl rfl ?_;(first | refine S.gskip1 rfl ?_ | refine S.gskip rfl ?_ | refine S.y (Y.gskipU rfl) ?_);refine opsS_nil ?_;refine N.tn ?_))
     refine N.tn ⟨(b9,b10),⟨rfl,rfl,rfl,rfl,rfl,rfl,rfl,trivial⟩,?_,trivial⟩
     (try dsimp only);exact Go.SX.Ent.go
    ·refine GQ.a ?_
     refine Q.al (fun b9 => ?_)
     refine Q.r ?_;(repeat (intro b1;refine Q.r ?_))
     repeat (first | refine D.endA ?_ | refine Q.dp rfl rfl rfl ?_ | refine Q.dy rfl rfl rfl ?_ | refine D.end_ ?_ | refine Q.endH ?_ | (refine D.e rfl rfl rfl ?_;(first | refine S.gskip1 rfl ?_ | refine S.gskip rfl ?_ | refine S.y (Y.gskipU rfl) ?_);refine opsS_nil ?_;refine N.tn ?_))
     refine D.e rfl rfl rfl ?_
     refine S.cr (args := [nP,.int .i64 o.fr,n1.val]) rfl (NDo n1 o.fr _) ?_
     rintro _ _ ⟨rfl,rfl⟩
     refine Q.r ?_;(repeat (intro b1;refine Q.r ?_))
     repeat (first | refine D.endA ?_ | refine Q.dp rfl rfl rfl ?_ | refine Q.dy rfl rfl rfl ?_ | refine D.end_ ?_ | refine Q.endH ?_ | (refine D.e rfl rfl rfl ?_;(first | refine S.gskip1 rfl ?_ | refine S.gskip rfl ?_ | refine S.y (Y.gskipU rfl) ?_);refine opsS_nil ?_;refine N.tn ?_))
     refine D.e rfl rfl rfl ?_
     refine Q.r ?_;(repeat (intro b1;refine Q.r ?_))
     repeat (first | refine D.endA ?_ | refine Q.dp rfl rfl rfl ?_ | refine Q.dy rfl rfl rfl ?_ | refine D.end_ ?_ | refine Q.endH ?_ | (refine D.e rfl rfl rfl ?_;(first | refine S.gskip1 rfl ?_ | refine S.gskip rfl ?_ | refine S.y (Y.gskipU rfl) ?_);refine opsS_nil ?_;refine N.tn ?_))
     refine D.e rfl rfl rfl ?_
     refine Q.r ?_;(repeat (intro b1;refine Q.r ?_))
     repeat (first | refine D.endA ?_ | refine Q.dp rfl rfl rfl ?_ | refine Q.dy rfl rfl rfl ?_ | refine D.end_ ?_ | refine Q.endH ?_ | (refine D.e rfl rfl rfl ?_;(first | refine S.gskip1 rfl ?_ | refine S.gskip rfl ?_ | refine S.y (Y.gskipU rfl) ?_);refine opsS_nil ?_;refine N.tn ?_))
     repeat (first | refine D.endA ?_ | refine Q.dp rfl rfl rfl ?_ | refine Q.dy rfl rfl rfl ?_ | refine D.end_ ?_ | refine Q.endH ?_ | (refine D.e rfl rfl rfl ?_;(first | refine S.gskip1 rfl ?_ | refine S.gskip rfl ?_ | refine S.y (Y.gskipU rfl) ?_);refine opsS_nil ?_;refine N.tn ?_))
     refine N.tn ⟨(b9,b10),⟨rfl,rfl,rfl,rfl,rfl,rfl,rfl,trivial⟩,?_,trivial⟩
     (try dsimp only);exact Go.SX.Ent.go
   ·refine GQ.a ?_
    refine Q.al (fun b9 => ?_)
    refine Q.r ?_;(repeat (intro b1;refine Q.r ?_))
    repeat (first | refine D.endA ?_ | refine Q.dp rfl rfl rfl ?_ | refine Q.dy rfl rfl rfl ?_ | refine D.end_ ?_ | refine Q.endH ?_ | (refine D.e rfl rfl rfl ?_;(first | refine S.gskip1 rfl ?_ | refine S.gskip rfl ?_ | refine S.y (Y.gskipU rfl) ?_);refine opsS_nil ?_;refine N.tn ?_))
    refine D.e rfl rfl rfl ?_
    refine S.cr (args := [nP,.int .i64 o.fr,n2.val]) rfl (NPlan n2 o.fr _) ?_
    rintro _ _ ⟨rfl,rfl⟩
    refine Q.r ?_;(repeat (intro b1;refine Q.r ?_))
    repeat (first | refine D.endA ?_ | refine Q.dp rfl rfl rfl ?_ | refine Q.dy rfl rfl rfl ?_ | refine D.end_ ?_ | refine Q.endH ?_ | (refine D.e rfl rfl rfl ?_;(first | refine S.gskip1 rfl ?_ | refine S.gskip rfl ?_ | refine S.y (Y.gskipU rfl) ?_);refine opsS_nil ?_;refine N.tn ?_))
    refine D.e rfl rfl rfl ?_
    refine S.cr (args := [nP,.int .i64 o.fr,n1.val]) rfl (NDo n1 o.fr _) ?_
    rintro _ _ ⟨rfl,rfl⟩
    refine Q.r ?_;(repeat (intro b1;refine Q.r ?_))
    repeat (first | refine D.endA ?_ | refine Q.dp rfl rfl rfl ?_ | refine Q.dy rfl rfl rfl ?_ | refine D.end_ ?_ | refine Q.endH ?_ | (refine D.e rfl rfl rfl ?_;(first | refine S.gskip1 rfl ?_ | refine S.gskip rfl ?_ | refine S.y (Y.gskipU rfl) ?_);refine opsS_nil ?_;refine N.tn ?_))
    refine D.e rfl rfl rfl ?_
    refine Q.r ?_;(repeat (intro b1;refine Q.r ?_))
    repeat (first | refine D.endA ?_ | refine Q.dp rfl rfl rfl ?_ | refine Q.dy rfl rfl rfl ?_ | refine D.end_ ?_ | refine Q.endH ?_ | (refine D.e rfl rfl rfl ?_;(first | refine S.gskip1 rfl ?_ | refine S.gskip rfl ?_ | refine S.y (Y.gskipU rfl) ?_);refine opsS_nil ?_;refine N.tn ?_))
    refine D.e rfl rfl rfl ?_
    refine Q.r ?_;(repeat (intro b1;refine Q.r ?_))
    repeat (first | refine D.endA ?_ | refine Q.dp rfl rfl rfl ?_ | refine Q.dy rfl rfl rfl ?_ | refine D.end_ ?_ | refine Q.endH ?_ | (refine D.e rfl rfl rfl ?_;(first | refine S.gskip1 rfl ?_ | refine S.gskip rfl ?_ | refine S.y (Y.gskipU rfl) ?_);refine opsS_nil ?_;refine N.tn ?_))
    repeat (first | refine D.endA ?_ | refine Q.dp rfl rfl rfl ?_ | refine Q.dy rfl rfl rfl ?_ | refine D.end_ ?_ | refine Q.endH ?_ | (refine D.e rfl rfl rfl ?_;(first | refine S.gskip1 rfl ?_ | refine S.gskip rfl ?_ | refine S.y (Y.gskipU rfl) ?_);refine opsS_nil ?_;refine N.tn ?_))
    refine N.tn ⟨(b9,b10),⟨rfl,rfl,rfl,rfl,rfl,rfl,rfl,trivial⟩,?_,trivial⟩
    (try dsimp only);exact Go.SX.Ent.go
 rintro ⟨b9,b10⟩ _
 dsimp only
 refine Q.r ?_;(repeat (intro b1;refine Q.r ?_))
 refine Q.dgo [true,true,true,true] [1,3,8] [] [0,2,1,3,4,5,6,7,8,9,10] ?_
 refine Q.rd ?_;(repeat (intro b1;refine Q.rd ?_))
 refine D.e rfl rfl rfl ?_
 refine S.cmG (args := [nV5]) rfl (Nplan M2 _) ?_
 rintro _ _ ⟨g1,d1,g2,d2,g3,d3,g4,d4,g5,d5,rfl,rfl⟩
 refine Q.r ?_;(repeat (intro b1;refine Q.r ?_))
 refine Q.rd ?_;(repeat (intro b1;refine Q.rd ?_))
 refine D.e rfl rfl rfl ?_
 refine S.cmG (args := [lP5 g1 d1 0 g2 d2 0 g3 d3 0 g4 d4 0 g5 d5 0,nV5]) rfl (NSamePlan g1 d1 g2 d2 g3 d3 g4 d4 g5 d5 M2 _) ?_
 rintro _ _ ⟨rfl,rfl⟩
 refine Q.r ?_;(repeat (intro b1;refine Q.r ?_))
 refine Q.rd ?_;(repeat (intro b1;refine Q.rd ?_))
 refine D.e rfl rfl rfl ?_
 refine S.guard rfl ?_
 refine S.cr (args := [n2.val,n1.val]) rfl (Same12_spec n2 n1 _ hn2.rd (hn1.mono hl2).rd hN2 hN1 he21) ?_
 rintro _ _ ⟨rfl,rfl⟩
 refine Q.r ?_;(repeat (intro b1;refine Q.r ?_))
 refine Q.rd ?_;(repeat (intro b1;refine Q.rd ?_))
 by_cases hw : o.w = true
 ·refine Q.r ?_;(repeat (intro b1;refine Q.r ?_))
  refine S.cmG (args := [nP,nP,.slice none 0 0]) rfl (Napply none 0 [] M2 _ okNs.nil (Nat.zero_le _)) ?_
  rintro _ _ ⟨rfl,rfl⟩
  refine Q.r ?_;(repeat (intro b1;refine Q.r ?_))
  refine S.cmG (args := [nP,nP,.slice none 0 0]) rfl (Napply none 0 [] M2 _ okNs.nil (Nat.zero_le _)) ?_
  rintro _ _ ⟨rfl,rfl⟩
  refine Q.r ?_;(repeat (intro b1;refine Q.r ?_))
  refine N.r1 (RV.tmp rfl RV.nil) ?_ ⟨M2,rfl,hM2,rfl⟩
  exact Go.SX.Ent.go
 ·have hw : o.w = false := by simpa using hw
  refine Q.r ?_;(repeat (intro b1;refine Q.r ?_))
  refine S.cmG (args := [nP,nP,.slice none 0 0]) rfl (Napply none 0 [] M2 _ okNs.nil (Nat.zero_le _)) ?_
  rintro _ _ ⟨rfl,rfl⟩
  refine Q.r ?_;(repeat (intro b1;refine Q.r ?_))
  refine S.cmG (args := [nP,nP,.slice none 0 0]) rfl (Napply none 0 [] M2 _ okNs.nil (Nat.zero_le _)) ?_
  rintro _ _ ⟨rfl,rfl⟩
  refine Q.r ?_;(repeat (intro b1;refine Q.r ?_))
  refine N.r1 (RV.tmp rfl RV.nil) ?_ ⟨M2,rfl,hM2,rfl⟩
  exact Go.SX.Ent.go
end Go.Proofs.YtiampehfpgcogaaGreatDoor
namespace Go.Proofs.YtiampehfpgcogaaGreatDoor
open Go Go.SX
attribute [local irreducible] swp opsS thenS blockS retS CallsS St Ent YieldS anyS drawS
end Go.Proofs.YtiampehfpgcogaaGreatDoor
namespace Go.Proofs.YtiampehfpgcogaaGreatDoor
open Go Go.SX
attribute [local irreducible] swp opsS thenS blockS retS CallsS St Ent YieldS anyS drawS
theorem NNew (s d : Int) (L : List HP) (h : ¬ (1 ≤ s ∧ s ≤ 4 ∧ 1 ≤ d ∧ d ≤ 8)) : CallsS Tryz.prog 9 [.int .i64 s,.int .i64 d] L (fun r L' => r = .tuple #[nP,.int .i64 1] ∧ L' = L) := by
 refine CallsS.of_body Tryz.func9 rfl rfl rfl ?_
 by_cases h1 : s < 1
 ·refine Q.r ?_;(repeat (intro b1;refine Q.r ?_))
  exact N.r2 (RV.tmp rfl (RV.tmp rfl RV.nil)) (Ent.refl _) ⟨rfl,rfl⟩
 by_cases h2 : 4 < s
 ·refine Q.r ?_;(repeat (intro b1;refine Q.r ?_))
  exact N.r2 (RV.tmp rfl (RV.tmp rfl RV.nil)) (Ent.refl _) ⟨rfl,rfl⟩
 by_cases h3 : d < 1
 ·refine Q.r ?_;(repeat (intro b1;refine Q.r ?_))
  exact N.r2 (RV.tmp rfl (RV.tmp rfl RV.nil)) (Ent.refl _) ⟨rfl,rfl⟩
 have h4 : 8 < d := by omega
 refine Q.r ?_;(repeat (intro b1;refine Q.r ?_))
 exact N.r2 (RV.tmp rfl (RV.tmp rfl RV.nil)) (Ent.refl _) ⟨rfl,rfl⟩
structure LV (j : JG) (k : Nat) : Prop where
 w : WN j
 s1 : 1 ≤ j.shards
 s2 : j.shards ≤ 4
 t : j.tr.length ≤ 2 * min k 40
 d : j.done.length ≤ 2 * min k 40
theorem LV.zero {s d : Int} (h1 : 1 ≤ s) (h2 : s ≤ 4) (h3 : 1 ≤ d) (h4 : d ≤ 8) : LV (JG0 s d) 0 := ⟨⟨WG.zero h3 h4,fun _ h => (by cases h),fun _ h => (by cases h)⟩,h1,h2,Nat.zero_le _,Nat.zero_le _⟩
theorem LV.step {j : JG} {k : Nat} (h : LV j k) (hk : k < 40) {n : NA} (u : NumA n) (d fr : Int) (w : Bool) : LV (stepG j d fr n w) (k + 1) := by
 obtain ⟨a,b,c,e,f⟩ := step_ok h.w h.s1 h.s2 u d fr w
 have ht := h.t
 have hd := h.d
 exact ⟨a,by rw [e];exact h.s1,by rw [e];exact h.s2,by omega,by omega⟩
theorem LV.b {j : JG} {k : Nat} (h : LV j k) : j.tr.length ≤ 80 ∧ j.done.length ≤ 80 := by
 have ht := h.t
 have hd := h.d
 omega
theorem rg_newS {p : Nat} (M : Nat → Option Obj) (s d : Int) (h1 : 1 ≤ s) (h2 : s ≤ 4) {L : List HP} : Ent (pt p (cl [.int .i64 s,.int .i64 d,.int .u64 0,.int .u64 0,.int .u64 0,.slice none 0 0,.slice none 0 0] 33) :: L) (rgH M p (JG0 s d) :: L) :=
 rg_shut (p := p) (j := JG0 s d) (ta := none) (tc := 0) (ts := []) (da := none) (dc := 0) (ds := []) ⟨h1,h2,List.Perm.refl _,List.Pairwise.nil,fun _ h => (by cases h),fun _ h => (by cases h),SlM.nil0,Nat.le_refl _,List.Perm.refl _,List.Pairwise.nil,SlM.nil0⟩
set_option maxHeartbeats 8000000 in
theorem JudgePlays_spec (nb : Bool) (s d : Int) (a : Option Addr) (c : Nat) (xs : List GO) (M : Nat → Option Obj) (h : SlM M a xs.length 19 (xs.flatMap GO.cells)) (hx : ∀ o ∈ xs,GOK M o) (hn : xs.length ≤ 9223372036854775807) (hT : TabM M) :
  CallsS Tryz.prog 5 [.bool nb,.int .i64 s,.int .i64 d,.slice a xs.length c] [roM M] (fun r _ => r = .bool true) := by
 refine CallsS.of_body Tryz.func5 rfl rfl rfl ?_
 refine Q.r ?_;(repeat (intro b1;refine Q.r ?_))
 refine S.cmG rfl (Gawake_spec M _ hT) ?_
 rintro _ _ ⟨M1,rfl,hl1,rfl⟩
 refine Q.r ?_;(repeat (intro b1;refine Q.r ?_))
 by_cases hv : 1 ≤ s ∧ s ≤ 4 ∧ 1 ≤ d ∧ d ≤ 8
 ·obtain ⟨v1,v2,v3,v4⟩ := hv
  refine S.cr rfl (GNew_spec M1 s d _ v1 v2 v3 v4) ?_
  rintro _ _ ⟨p,rfl,rfl⟩
  cases nb with
  | true =>
   refine Q.r ?_;(repeat (intro b1;refine Q.r ?_))
   refine swp_cutB (σ := Unit) (fun _ => []) (fun _ => []) (fun _ => True) ?_ ?_
   ·refine swp_loop (σ := Nat × (Nat → Option Obj)) (fun s => [(9,nP),(12,nP),(64,.slice a xs.length c),(65,.int .i64 xs.length),(66,.int .i64 s.1)]) (fun s => roM s.2 :: []) (fun s => s.1 ≤ xs.length ∧ leM M s.2) (fun s => xs.length - s.1) (0,M1) ⟨rfl,rfl,rfl,rfl,rfl,trivial⟩ (by exact Go.SX.Ent.go) ⟨Nat.zero_le _,hl1⟩ ?_
    rintro ⟨k,M2⟩ ⟨hk,hl2⟩
    dsimp only at hk hl2 ⊢
    by_cases hlt : k < xs.length
    ·obtain ⟨o,hq⟩ := mem_get hlt
     obtain ⟨b,oo,hia,cr⟩ := SlM.cm (g := GO.cells) (fun _ => rfl) (h.mono hl2) hq rfl
     have hgo := hx o (List.mem_of_getElem? hq)
     rw [hia]
     by_cases h40 : 40 ≤ k
     ·refine Q.r ?_;(repeat (intro b1;refine Q.r ?_))
      exact ⟨(),trivial,by exact Go.SX.Ent.go,trivial⟩
     ·refine Q.r ?_;(repeat (intro b1;refine Q.r ?_))
      refine S.cmG (args := [nP,nP,.agg o.cells.toArray]) rfl (Nstep o M2 _ (hgo.mono hl2)) ?_
      rintro _ _ ⟨M3,rfl,hl3,rfl⟩
      refine Q.r ?_;(repeat (intro b1;refine Q.r ?_))
      refine S.cmG (args := [nP,nP,.int .u64 o.n.batch]) rfl (Nsame o.n.batch M3 _) ?_
      rintro _ _ ⟨rfl,rfl⟩
      refine Q.r ?_;(repeat (intro b1;refine Q.r ?_))
      rw [← hia]
      exact ⟨(k + 1,M3),⟨rfl,rfl,rfl,rfl,rfl,trivial⟩,by exact Go.SX.Ent.go,⟨hlt,hl2.trans hl3⟩,Nat.sub_succ_lt_self xs.length k hlt⟩
    ·have hke : k = xs.length := by omega
     subst hke
     refine Q.r ?_;(repeat (intro b1;refine Q.r ?_))
     exact ⟨(),trivial,by exact Go.SX.Ent.go,trivial⟩
   rintro _ _
   refine Q.r ?_;(repeat (intro b1;refine Q.r ?_))
   exact N.r1 (RV.tmp rfl RV.nil) (Ent.refl _) rfl
  | false =>
   refine Q.r ?_;(repeat (intro b1;refine Q.r ?_))
   revert b1
   intro x
   refine swp_cutB (σ := Unit) (fun _ => []) (fun _ => []) (fun _ => True) ?_ ?_
   ·refine swp_loop (σ := Nat × JG × (Nat → Option Obj)) (fun s => [(9,ptrG p),(12,.pointer (some ⟨x,0,none⟩)),(64,.slice a xs.length c),(65,.int .i64 xs.length),(66,.int .i64 s.1)]) (fun s => jdgH s.2.2 p s.2.1 :: rgH s.2.2 x s.2.1 :: roM s.2.2 :: []) (fun s => s.1 ≤ xs.length ∧ LV s.2.1 s.1 ∧ leM M s.2.2) (fun s => xs.length - s.1) (0,JG0 s d,M1) ⟨rfl,rfl,rfl,rfl,rfl,trivial⟩ (Ent.trans (rg_newS M1 s d v1 v2) (by exact Go.SX.Ent.go)) ⟨Nat.zero_le _,LV.zero v1 v2 v3 v4,hl1⟩ ?_
    rintro ⟨k,j,M2⟩ ⟨hk,hls,hl2⟩
    dsimp only at hk hls hl2 ⊢
    by_cases hlt : k < xs.length
    ·obtain ⟨o,hq⟩ := mem_get hlt
     obtain ⟨b,oo,hia,cr⟩ := SlM.cm (g := GO.cells) (fun _ => rfl) (h.mono hl2) hq rfl
     have hgo := hx o (List.mem_of_getElem? hq)
     have hbb := hls.b
     rw [hia]
     by_cases h40 : 40 ≤ k
     ·refine Q.r ?_;(repeat (intro b1;refine Q.r ?_))
      exact ⟨(),trivial,by exact Go.SX.Ent.go,trivial⟩
     ·have hls2 := hls.step (by omega) (few_num hgo.uu) o.d o.fr o.w
      have hb2 := hls2.b
      refine Q.r ?_;(repeat (intro b1;refine Q.r ?_))
      refine S.c3 (A := jdgH M2 p j) (B := rgH M2 x j) (C := roM M2) (args := [ptrG p,.pointer (some ⟨x,0,none⟩),.agg o.cells.toArray]) rfl (Lstep_spec o p x j M2 _ hls.w hls.s1 hls.s2 (by omega) (by omega) (hgo.mono hl2) (hT.mono hl2)) ?_
      rintro _ _ ⟨M3,rfl,hl3,rfl⟩
      refine Q.r ?_;(repeat (intro b1;refine Q.r ?_))
      refine S.c3 (A := jdgH M3 p (stepG j o.d o.fr o.n.abs.few o.w)) (B := rgH M3 x (stepG j o.d o.fr o.n.abs.few o.w)) (C := roM M3) (args := [ptrG p,.pointer (some ⟨x,0,none⟩),.int .u64 o.n.batch]) rfl (Lsame_spec p x (stepG j o.d o.fr o.n.abs.few o.w) o.n.batch M3 _ hls2.w hls2.s1 hls2.s2 (by omega) (by omega)) ?_
      rintro _ _ ⟨M4,rfl,hl4,rfl⟩
      refine Q.r ?_;(repeat (intro b1;refine Q.r ?_))
      rw [← hia]
      exact ⟨(k + 1,stepG j o.d o.fr o.n.abs.few o.w,M4),⟨rfl,rfl,rfl,rfl,rfl,trivial⟩,by exact Go.SX.Ent.go,⟨hlt,hls2,hl2.trans (hl3.trans hl4)⟩,Nat.sub_succ_lt_self xs.length k hlt⟩
    ·have hke : k = xs.length := by omega
     subst hke
     refine Q.r ?_;(repeat (intro b1;refine Q.r ?_))
     exact ⟨(),trivial,by exact Go.SX.Ent.go,trivial⟩
   rintro _ _
   refine Q.r ?_;(repeat (intro b1;refine Q.r ?_))
   exact N.r1 (RV.tmp rfl RV.nil) (Ent.refl _) rfl
 ·refine S.cr rfl (NNew s d _ hv) ?_
  rintro _ _ ⟨rfl,rfl⟩
  by_cases h1 : 1 ≤ s
  ·by_cases h2 : s ≤ 4
   ·by_cases h3 : 1 ≤ d
    ·have h4 : ¬ d ≤ 8 := by omega
     cases nb with
     | true =>
      refine Q.r ?_;(repeat (intro b1;refine Q.r ?_))
      refine swp_cutB (σ := Unit) (fun _ => []) (fun _ => []) (fun _ => True) ?_ ?_
      ·refine swp_loop (σ := Nat × (Nat → Option Obj)) (fun s => [(9,nP),(12,nP),(64,.slice a xs.length c),(65,.int .i64 xs.length),(66,.int .i64 s.1)]) (fun s => roM s.2 :: []) (fun s => s.1 ≤ xs.length ∧ leM M s.2) (fun s => xs.length - s.1) (0,M1) ⟨rfl,rfl,rfl,rfl,rfl,trivial⟩ (by exact Go.SX.Ent.go) ⟨Nat.zero_le _,hl1⟩ ?_
       rintro ⟨k,M2⟩ ⟨hk,hl2⟩
       dsimp only at hk hl2 ⊢
       by_cases hlt : k < xs.length
       ·obtain ⟨o,hq⟩ := mem_get hlt
        obtain ⟨b,oo,hia,cr⟩ := SlM.cm (g := GO.cells) (fun _ => rfl) (h.mono hl2) hq rfl
        have hgo := hx o (List.mem_of_getElem? hq)
        rw [hia]
        by_cases h40 : 40 ≤ k
        ·refine Q.r ?_;(repeat (intro b1;refine Q.r ?_))
         exact ⟨(),trivial,by exact Go.SX.Ent.go,trivial⟩
        ·refine Q.r ?_;(repeat (intro b1;refine Q.r ?_))
         refine S.cmG (args := [nP,nP,.agg o.cells.toArray]) rfl (Nstep o M2 _ (hgo.mono hl2)) ?_
         rintro _ _ ⟨M3,rfl,hl3,rfl⟩
         refine Q.r ?_;(repeat (intro b1;refine Q.r ?_))
         refine S.cmG (args := [nP,nP,.int .u64 o.n.batch]) rfl (Nsame o.n.batch M3 _) ?_
         rintro _ _ ⟨rfl,rfl⟩
         refine Q.r ?_;(repeat (intro b1;refine Q.r ?_))
         rw [← hia]
         exact ⟨(k + 1,M3),⟨rfl,rfl,rfl,rfl,rfl,trivial⟩,by exact Go.SX.Ent.go,⟨hlt,hl2.trans hl3⟩,Nat.sub_succ_lt_self xs.length k hlt⟩
       ·have hke : k = xs.length := by omega
        subst hke
        refine Q.r ?_;(repeat (intro b1;refine Q.r ?_))
        exact ⟨(),trivial,by exact Go.SX.Ent.go,trivial⟩
      rintro _ _
      refine Q.r ?_;(repeat (intro b1;refine Q.r ?_))
      exact N.r1 (RV.tmp rfl RV.nil) (Ent.refl _) rfl
     | false =>
      refine Q.r ?_;(repeat (intro b1;refine Q.r ?_))
      refine swp_cutB (σ := Unit) (fun _ => []) (fun _ => []) (fun _ => True) ?_ ?_
      ·refine swp_loop (σ := Nat × (Nat → Option Obj)) (fun s => [(9,nP),(12,nP),(64,.slice a xs.length c),(65,.int .i64 xs.length),(66,.int .i64 s.1)]) (fun s => roM s.2 :: []) (fun s => s.1 ≤ xs.length ∧ leM M s.2) (fun s => xs.length - s.1) (0,M1) ⟨rfl,rfl,rfl,rfl,rfl,trivial⟩ (by exact Go.SX.Ent.go) ⟨Nat.zero_le _,hl1⟩ ?_
       rintro ⟨k,M2⟩ ⟨hk,hl2⟩
       dsimp only at hk hl2 ⊢
       by_cases hlt : k < xs.length
       ·obtain ⟨o,hq⟩ := mem_get hlt
        obtain ⟨b,oo,hia,cr⟩ := SlM.cm (g := GO.cells) (fun _ => rfl) (h.mono hl2) hq rfl
        have hgo := hx o (List.mem_of_getElem? hq)
        rw [hia]
        by_cases h40 : 40 ≤ k
        ·refine Q.r ?_;(repeat (intro b1;refine Q.r ?_))
         exact ⟨(),trivial,by exact Go.SX.Ent.go,trivial⟩
        ·refine Q.r ?_;(repeat (intro b1;refine Q.r ?_))
         refine S.cmG (args := [nP,nP,.agg o.cells.toArray]) rfl (Nstep o M2 _ (hgo.mono hl2)) ?_
         rintro _ _ ⟨M3,rfl,hl3,rfl⟩
         refine Q.r ?_;(repeat (intro b1;refine Q.r ?_))
         refine S.cmG (args := [nP,nP,.int .u64 o.n.batch]) rfl (Nsame o.n.batch M3 _) ?_
         rintro _ _ ⟨rfl,rfl⟩
         refine Q.r ?_;(repeat (intro b1;refine Q.r ?_))
         rw [← hia]
         exact ⟨(k + 1,M3),⟨rfl,rfl,rfl,rfl,rfl,trivial⟩,by exact Go.SX.Ent.go,⟨hlt,hl2.trans hl3⟩,Nat.sub_succ_lt_self xs.length k hlt⟩
       ·have hke : k = xs.length := by omega
        subst hke
        refine Q.r ?_;(repeat (intro b1;refine Q.r ?_))
        exact ⟨(),trivial,by exact Go.SX.Ent.go,trivial⟩
      rintro _ _
      refine Q.r ?_;(repeat (intro b1;refine Q.r ?_))
      exact N.r1 (RV.tmp rfl RV.nil) (Ent.refl _) rfl
    ·cases nb with
     | true =>
      refine Q.r ?_;(repeat (intro b1;refine Q.r ?_))
      refine swp_cutB (σ := Unit) (fun _ => []) (fun _ => []) (fun _ => True) ?_ ?_
      ·refine swp_loop (σ := Nat × (Nat → Option Obj)) (fun s => [(9,nP),(12,nP),(64,.slice a xs.length c),(65,.int .i64 xs.length),(66,.int .i64 s.1)]) (fun s => roM s.2 :: []) (fun s => s.1 ≤ xs.length ∧ leM M s.2) (fun s => xs.length - s.1) (0,M1) ⟨rfl,rfl,rfl,rfl,rfl,trivial⟩ (by exact Go.SX.Ent.go) ⟨Nat.zero_le _,hl1⟩ ?_
       rintro ⟨k,M2⟩ ⟨hk,hl2⟩
       dsimp only at hk hl2 ⊢
       by_cases hlt : k < xs.length
       ·obtain ⟨o,hq⟩ := mem_get hlt
        obtain ⟨b,oo,hia,cr⟩ := SlM.cm (g := GO.cells) (fun _ => rfl) (h.mono hl2) hq rfl
        have hgo := hx o (List.mem_of_getElem? hq)
        rw [hia]
        by_cases h40 : 40 ≤ k
        ·refine Q.r ?_;(repeat (intro b1;refine Q.r ?_))
         exact ⟨(),trivial,by exact Go.SX.Ent.go,trivial⟩
        ·refine Q.r ?_;(repeat (intro b1;refine Q.r ?_))
         refine S.cmG (args := [nP,nP,.agg o.cells.toArray]) rfl (Nstep o M2 _ (hgo.mono hl2)) ?_
         rintro _ _ ⟨M3,rfl,hl3,rfl⟩
         refine Q.r ?_;(repeat (intro b1;refine Q.r ?_))
         refine S.cmG (args := [nP,nP,.int .u64 o.n.batch]) rfl (Nsame o.n.batch M3 _) ?_
         rintro _ _ ⟨rfl,rfl⟩
         refine Q.r ?_;(repeat (intro b1;refine Q.r ?_))
         rw [← hia]
         exact ⟨(k + 1,M3),⟨rfl,rfl,rfl,rfl,rfl,trivial⟩,by exact Go.SX.Ent.go,⟨hlt,hl2.trans hl3⟩,Nat.sub_succ_lt_self xs.length k hlt⟩
       ·have hke : k = xs.length := by omega
        subst hke
        refine Q.r ?_;(repeat (intro b1;refine Q.r ?_))
        exact ⟨(),trivial,by exact Go.SX.Ent.go,trivial⟩
      rintro _ _
      refine Q.r ?_;(repeat (intro b1;refine Q.r ?_))
      exact N.r1 (RV.tmp rfl RV.nil) (Ent.refl _) rfl
     | false =>
      refine Q.r ?_;(repeat (intro b1;refine Q.r ?_))
      refine swp_cutB (σ := Unit) (fun _ => []) (fun _ => []) (fun _ => True) ?_ ?_
      ·refine swp_loop (σ := Nat × (Nat → Option Obj)) (fun s => [(9,nP),(12,nP),(64,.slice a xs.length c),(65,.int .i64 xs.length),(66,.int .i64 s.1)]) (fun s => roM s.2 :: []) (fun s => s.1 ≤ xs.length ∧ leM M s.2) (fun s => xs.length - s.1) (0,M1) ⟨rfl,rfl,rfl,rfl,rfl,trivial⟩ (by exact Go.SX.Ent.go) ⟨Nat.zero_le _,hl1⟩ ?_
       rintro ⟨k,M2⟩ ⟨hk,hl2⟩
       dsimp only at hk hl2 ⊢
       by_cases hlt : k < xs.length
       ·obtain ⟨o,hq⟩ := mem_get hlt
        obtain ⟨b,oo,hia,cr⟩ := SlM.cm (g := GO.cells) (fun _ => rfl) (h.mono hl2) hq rfl
        have hgo := hx o (List.mem_of_getElem? hq)
        rw [hia]
        by_cases h40 : 40 ≤ k
        ·refine Q.r ?_;(repeat (intro b1;refine Q.r ?_))
         exact ⟨(),trivial,by exact Go.SX.Ent.go,trivial⟩
        ·refine Q.r ?_;(repeat (intro b1;refine Q.r ?_))
         refine S.cmG (args := [nP,nP,.agg o.cells.toArray]) rfl (Nstep o M2 _ (hgo.mono hl2)) ?_
         rintro _ _ ⟨M3,rfl,hl3,rfl⟩
         refine Q.r ?_;(repeat (intro b1;refine Q.r ?_))
         refine S.cmG (args := [nP,nP,.int .u64 o.n.batch]) rfl (Nsame o.n.batch M3 _) ?_
         rintro _ _ ⟨rfl,rfl⟩
         refine Q.r ?_;(repeat (intro b1;refine Q.r ?_))
         rw [← hia]
         exact ⟨(k + 1,M3),⟨rfl,rfl,rfl,rfl,rfl,trivial⟩,by exact Go.SX.Ent.go,⟨hlt,hl2.trans hl3⟩,Nat.sub_succ_lt_self xs.length k hlt⟩
       ·have hke : k = xs.length := by omega
        subst hke
        refine Q.r ?_;(repeat (intro b1;refine Q.r ?_))
        exact ⟨(),trivial,by exact Go.SX.Ent.go,trivial⟩
      rintro _ _
      refine Q.r ?_;(repeat (intro b1;refine Q.r ?_))
      exact N.r1 (RV.tmp rfl RV.nil) (Ent.refl _) rfl
   ·cases nb with
    | true =>
     refine Q.r ?_;(repeat (intro b1;refine Q.r ?_))
     refine swp_cutB (σ := Unit) (fun _ => []) (fun _ => []) (fun _ => True) ?_ ?_
     ·refine swp_loop (σ := Nat × (Nat → Option Obj)) (fun s => [(9,nP),(12,nP),(64,.slice a xs.length c),(65,.int .i64 xs.length),(66,.int .i64 s.1)]) (fun s => roM s.2 :: []) (fun s => s.1 ≤ xs.length ∧ leM M s.2) (fun s => xs.length - s.1) (0,M1) ⟨rfl,rfl,rfl,rfl,rfl,trivial⟩ (by exact Go.SX.Ent.go) ⟨Nat.zero_le _,hl1⟩ ?_
      rintro ⟨k,M2⟩ ⟨hk,hl2⟩
      dsimp only at hk hl2 ⊢
      by_cases hlt : k < xs.length
      ·obtain ⟨o,hq⟩ := mem_get hlt
       obtain ⟨b,oo,hia,cr⟩ := SlM.cm (g := GO.cells) (fun _ => rfl) (h.mono hl2) hq rfl
       have hgo := hx o (List.mem_of_getElem? hq)
       rw [hia]
       by_cases h40 : 40 ≤ k
       ·refine Q.r ?_;(repeat (intro b1;refine Q.r ?_))
        exact ⟨(),trivial,by exact Go.SX.Ent.go,trivial⟩
       ·refine Q.r ?_;(repeat (intro b1;refine Q.r ?_))
        refine S.cmG (args := [nP,nP,.agg o.cells.toArray]) rfl (Nstep o M2 _ (hgo.mono hl2)) ?_
        rintro _ _ ⟨M3,rfl,hl3,rfl⟩
        refine Q.r ?_;(repeat (intro b1;refine Q.r ?_))
        refine S.cmG (args := [nP,nP,.int .u64 o.n.batch]) rfl (Nsame o.n.batch M3 _) ?_
        rintro _ _ ⟨rfl,rfl⟩
        refine Q.r ?_;(repeat (intro b1;refine Q.r ?_))
        rw [← hia]
        exact ⟨(k + 1,M3),⟨rfl,rfl,rfl,rfl,rfl,trivial⟩,by exact Go.SX.Ent.go,⟨hlt,hl2.trans hl3⟩,Nat.sub_succ_lt_self xs.length k hlt⟩
      ·have hke : k = xs.length := by omega
       subst hke
       refine Q.r ?_;(repeat (intro b1;refine Q.r ?_))
       exact ⟨(),trivial,by exact Go.SX.Ent.go,trivial⟩
     rintro _ _
     refine Q.r ?_;(repeat (intro b1;refine Q.r ?_))
     exact N.r1 (RV.tmp rfl RV.nil) (Ent.refl _) rfl
    | false =>
     refine Q.r ?_;(repeat (intro b1;refine Q.r ?_))
     refine swp_cutB (σ := Unit) (fun _ => []) (fun _ => []) (fun _ => True) ?_ ?_
     ·refine swp_loop (σ := Nat × (Nat → Option Obj)) (fun s => [(9,nP),(12,nP),(64,.slice a xs.length c),(65,.int .i64 xs.length),(66,.int .i64 s.1)]) (fun s => roM s.2 :: []) (fun s => s.1 ≤ xs.length ∧ leM M s.2) (fun s => xs.length - s.1) (0,M1) ⟨rfl,rfl,rfl,rfl,rfl,trivial⟩ (by exact Go.SX.Ent.go) ⟨Nat.zero_le _,hl1⟩ ?_
      rintro ⟨k,M2⟩ ⟨hk,hl2⟩
      dsimp only at hk hl2 ⊢
      by_cases hlt : k < xs.length
      ·obtain ⟨o,hq⟩ := mem_get hlt
       obtain ⟨b,oo,hia,cr⟩ := SlM.cm (g := GO.cells) (fun _ => rfl) (h.mono hl2) hq rfl
       have hgo := hx o (List.mem_of_getElem? hq)
       rw [hia]
       by_cases h40 : 40 ≤ k
       ·refine Q.r ?_;(repeat (intro b1;refine Q.r ?_))
        exact ⟨(),trivial,by exact Go.SX.Ent.go,trivial⟩
       ·refine Q.r ?_;(repeat (intro b1;refine Q.r ?_))
        refine S.cmG (args := [nP,nP,.agg o.cells.toArray]) rfl (Nstep o M2 _ (hgo.mono hl2)) ?_
        rintro _ _ ⟨M3,rfl,hl3,rfl⟩
        refine Q.r ?_;(repeat (intro b1;refine Q.r ?_))
        refine S.cmG (args := [nP,nP,.int .u64 o.n.batch]) rfl (Nsame o.n.batch M3 _) ?_
        rintro _ _ ⟨rfl,rfl⟩
        refine Q.r ?_;(repeat (intro b1;refine Q.r ?_))
        rw [← hia]
        exact ⟨(k + 1,M3),⟨rfl,rfl,rfl,rfl,rfl,trivial⟩,by exact Go.SX.Ent.go,⟨hlt,hl2.trans hl3⟩,Nat.sub_succ_lt_self xs.length k hlt⟩
      ·have hke : k = xs.length := by omega
       subst hke
       refine Q.r ?_;(repeat (intro b1;refine Q.r ?_))
       exact ⟨(),trivial,by exact Go.SX.Ent.go,trivial⟩
     rintro _ _
     refine Q.r ?_;(repeat (intro b1;refine Q.r ?_))
     exact N.r1 (RV.tmp rfl RV.nil) (Ent.refl _) rfl
  ·cases nb with
   | true =>
    refine Q.r ?_;(repeat (intro b1;refine Q.r ?_))
    refine swp_cutB (σ := Unit) (fun _ => []) (fun _ => []) (fun _ => True) ?_ ?_
    ·refine swp_loop (σ := Nat × (Nat → Option Obj)) (fun s => [(9,nP),(12,nP),(64,.slice a xs.length c),(65,.int .i64 xs.length),(66,.int .i64 s.1)]) (fun s => roM s.2 :: []) (fun s => s.1 ≤ xs.length ∧ leM M s.2) (fun s => xs.length - s.1) (0,M1) ⟨rfl,rfl,rfl,rfl,rfl,trivial⟩ (by exact Go.SX.Ent.go) ⟨Nat.zero_le _,hl1⟩ ?_
     rintro ⟨k,M2⟩ ⟨hk,hl2⟩
     dsimp only at hk hl2 ⊢
     by_cases hlt : k < xs.length
     ·obtain ⟨o,hq⟩ := mem_get hlt
      obtain ⟨b,oo,hia,cr⟩ := SlM.cm (g := GO.cells) (fun _ => rfl) (h.mono hl2) hq rfl
      have hgo := hx o (List.mem_of_getElem? hq)
      rw [hia]
      by_cases h40 : 40 ≤ k
      ·refine Q.r ?_;(repeat (intro b1;refine Q.r ?_))
       exact ⟨(),trivial,by exact Go.SX.Ent.go,trivial⟩
      ·refine Q.r ?_;(repeat (intro b1;refine Q.r ?_))
       refine S.cmG (args := [nP,nP,.agg o.cells.toArray]) rfl (Nstep o M2 _ (hgo.mono hl2)) ?_
       rintro _ _ ⟨M3,rfl,hl3,rfl⟩
       refine Q.r ?_;(repeat (intro b1;refine Q.r ?_))
       refine S.cmG (args := [nP,nP,.int .u64 o.n.batch]) rfl (Nsame o.n.batch M3 _) ?_
       rintro _ _ ⟨rfl,rfl⟩
       refine Q.r ?_;(repeat (intro b1;refine Q.r ?_))
       rw [← hia]
       exact ⟨(k + 1,M3),⟨rfl,rfl,rfl,rfl,rfl,trivial⟩,by exact Go.SX.Ent.go,⟨hlt,hl2.trans hl3⟩,Nat.sub_succ_lt_self xs.length k hlt⟩
     ·have hke : k = xs.length := by omega
      subst hke
      refine Q.r ?_;(repeat (intro b1;refine Q.r ?_))
      exact ⟨(),trivial,by exact Go.SX.Ent.go,trivial⟩
    rintro _ _
    refine Q.r ?_;(repeat (intro b1;refine Q.r ?_))
    exact N.r1 (RV.tmp rfl RV.nil) (Ent.refl _) rfl
   | false =>
    refine Q.r ?_;(repeat (intro b1;refine Q.r ?_))
    refine swp_cutB (σ := Unit) (fun _ => []) (fun _ => []) (fun _ => True) ?_ ?_
    ·refine swp_loop (σ := Nat × (Nat → Option Obj)) (fun s => [(9,nP),(12,nP),(64,.slice a xs.length c),(65,.int .i64 xs.length),(66,.int .i64 s.1)]) (fun s => roM s.2 :: []) (fun s => s.1 ≤ xs.length ∧ leM M s.2) (fun s => xs.length - s.1) (0,M1) ⟨rfl,rfl,rfl,rfl,rfl,trivial⟩ (by exact Go.SX.Ent.go) ⟨Nat.zero_le _,hl1⟩ ?_
     rintro ⟨k,M2⟩ ⟨hk,hl2⟩
     dsimp only at hk hl2 ⊢
     by_cases hlt : k < xs.length
     ·obtain ⟨o,hq⟩ := mem_get hlt
      obtain ⟨b,oo,hia,cr⟩ := SlM.cm (g := GO.cells) (fun _ => rfl) (h.mono hl2) hq rfl
      have hgo := hx o (List.mem_of_getElem? hq)
      rw [hia]
      by_cases h40 : 40 ≤ k
      ·refine Q.r ?_;(repeat (intro b1;refine Q.r ?_))
       exact ⟨(),trivial,by exact Go.SX.Ent.go,trivial⟩
      ·refine Q.r ?_;(repeat (intro b1;refine Q.r ?_))
       refine S.cmG (args := [nP,nP,.agg o.cells.toArray]) rfl (Nstep o M2 _ (hgo.mono hl2)) ?_
       rintro _ _ ⟨M3,rfl,hl3,rfl⟩
       refine Q.r ?_;(repeat (intro b1;refine Q.r ?_))
       refine S.cmG (args := [nP,nP,.int .u64 o.n.batch]) rfl (Nsame o.n.batch M3 _) ?_
       rintro _ _ ⟨rfl,rfl⟩
       refine Q.r ?_;(repeat (intro b1;refine Q.r ?_))
       rw [← hia]
       exact ⟨(k + 1,M3),⟨rfl,rfl,rfl,rfl,rfl,trivial⟩,by exact Go.SX.Ent.go,⟨hlt,hl2.trans hl3⟩,Nat.sub_succ_lt_self xs.length k hlt⟩
     ·have hke : k = xs.length := by omega
      subst hke
      refine Q.r ?_;(repeat (intro b1;refine Q.r ?_))
      exact ⟨(),trivial,by exact Go.SX.Ent.go,trivial⟩
    rintro _ _
    refine Q.r ?_;(repeat (intro b1;refine Q.r ?_))
    exact N.r1 (RV.tmp rfl RV.nil) (Ent.refl _) rfl
end Go.Proofs.YtiampehfpgcogaaGreatDoor
