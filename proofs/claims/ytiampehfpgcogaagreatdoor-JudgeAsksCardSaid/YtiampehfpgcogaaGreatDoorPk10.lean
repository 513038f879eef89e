/- The law's step, of the judge and of the document's. What a script does to a judge; giving up. The law: what is given up is told to each part and to who asked, and is no trial any more; what is committed isn't given up. Of any number there is one trial at most. The law: a batch that was committed is told its stamp; one that is under way begins no other trial; of any number there is one trial at most. No condition. -/
import Derived.Test.YtiampehfpgcogaaGreatDoorPk09
set_option linter.unusedVariables false
set_option linter.unusedSimpArgs false
set_option linter.unusedSectionVars false
namespace Go.Proofs.YtiampehfpgcogaaGreatDoor
open Go Go.SX
attribute [local irreducible] swp opsS thenS blockS retS CallsS St Ent YieldS anyS drawS
structure S7 where
  b9 : Nat
  b10 : Nat
  a1 : Option Addr
  c1 : Nat
  rs : List NV
  a2 : Option Addr
  c2 : Nat
  ns : List NV
  a3 : Option Addr
  c3 : Nat
  ms : List (Int × NV)
  a4 : Option Addr
  c4 : Nat
  is : List NV
  a5 : Option Addr
  c5 : Nat
  es : List (Int × NV)
  f1 : Option Addr
  d1 : Nat
  rs2 : List NV
  f2 : Option Addr
  d2 : Nat
  ns2 : List NV
  f3 : Option Addr
  d3 : Nat
  ms2 : List (Int × NV)
  f4 : Option Addr
  d4 : Nat
  is2 : List NV
  f5 : Option Addr
  d5 : Nat
  es2 : List (Int × NV)
  M : Nat → Option Obj
theorem Y.fld {P : Program} {n : Nat} {ops : List Oper} {f : Env} {A : List HP} {d : Tmp} {ty : TypeId} {pos : String} {af : Array Edge} {x : Operand} {t : TypeId} {k off sz : Nat} {fs : List (Nat × Nat × Bool)} {vs : Array Value} {v : Value} [h : StTy P t fs] (hx : ev f x = some (.agg vs)) (hf : fs[k]? = some (off, sz, false)) (hk : vs.toList[off]? = some v) : YieldS P n ops ⟨some d, .field t x k, ty, pos, af, none⟩ f A v := by
  obtain ⟨fields, hu, _, hfs⟩ := h.und
  obtain ⟨fld, h1, h2, h3, h4⟩ := hfs k off sz false hf
  refine Y.of (fun a w s => ?_)
  have hv' : vs[off]? = some v := by simpa using hk
  simp [execOp, s.eval hx, Instr.field, asAgg, part, hv', hu, h1, h2, h4]
theorem els_len {j : JG} (hW : WG j) (fr : Int) (n : NA) : (planG j fr n).els.length ≤ 5 := by
  unfold planG
  split
  · exact Nat.zero_le _
  split
  · unfold askG
    split
    · exact Nat.zero_le _
    · split
      · exact Nat.zero_le _
      · split <;> exact Nat.zero_le _
  split
  · unfold voteG
    split
    · exact Nat.zero_le _
    · rename_i t ht
      split
      · exact Nat.zero_le _
      split
      · exact Nat.zero_le _
      split
      · exact Nat.zero_le _
      split
      · exact Nat.zero_le _
      · have := (hW.lk ht).pl
        rw [toldM_len]; omega
  split
  · unfold ackG
    split
    · exact Nat.zero_le _
    · split
      · exact Nat.zero_le _
      · split <;> exact Nat.zero_le _
  split
  · unfold probeG
    split
    · exact Nat.zero_le _
    · split <;> exact Nat.zero_le _
  · exact Nat.zero_le _
theorem NumA.fewL {n' : NV} {n : NV} (h : NumA n.abs) (e : n'.abs = n.abs.few) : NumA n'.abs := by
  rw [e]; exact ⟨h.kind, h.txn, h.batch, h.stamp, h.after, h.mark, h.query, h.id, h.k, h.ef, h.code, h.who⟩
theorem few_num {n : NA} (h : NumA n) : NumA n.few := ⟨h.kind, h.txn, h.batch, h.stamp, h.after, h.mark, h.query, h.id, h.k, h.ef, h.code, h.who⟩
theorem map_len {α β : Type} {f : α → β} {l : List α} {m : List β} (h : l.map f = m) : l.length = m.length := by rw [← h, List.length_map]
abbrev p50 (b : Nat) (a1 : Option Addr) (c1 n1 : Nat) (a2 : Option Addr) (c2 n2 : Nat) (a3 : Option Addr) (c3 n3 : Nat) (a4 : Option Addr) (c4 n4 : Nat) (a5 : Option Addr) (c5 n5 : Nat) : HP := pt b (cl [.slice a1 n1 c1, .slice a2 n2 c2, .slice a3 n3 c3, .slice a4 n4 c4, .slice a5 n5 c5] 50)
abbrev p88 (b : Nat) (a1 : Option Addr) (c1 n1 : Nat) (a2 : Option Addr) (c2 n2 : Nat) (a3 : Option Addr) (c3 n3 : Nat) (a4 : Option Addr) (c4 n4 : Nat) (a5 : Option Addr) (c5 n5 : Nat) : HP := pt b (cl [.slice a1 n1 c1, .slice a2 n2 c2, .slice a3 n3 c3, .slice a4 n4 c4, .slice a5 n5 c5] 88)
set_option maxHeartbeats 8000000 in
theorem Lstep_spec (o : GO) (p x : Nat) (j : JG) (M : Nat → Option Obj) (L : List HP) (hw : WN j) (s1 : 1 ≤ j.shards) (s2 : j.shards ≤ 4) (htl : j.tr.length ≤ 40000) (hdl : j.done.length ≤ 40000) (ho : GOK M o) (hT : TabM M) :
    CallsS Tryz.prog 10 [ptrG p, .pointer (some ⟨x, 0, none⟩), .agg o.cells.toArray] (jdgH M p j :: rgH M x j :: roM M :: L) (fun r L' => ∃ M', r = .bool true ∧ leM M M' ∧ L' = jdgH M' p (stepG j o.d o.fr o.n.abs.few o.w) :: rgH M' x (stepG j o.d o.fr o.n.abs.few o.w) :: roM M' :: L) := by
  have hb := hw.g.b
  refine CallsS.of_body Tryz.func10 rfl rfl rfl ?_
  refine Q.r ?_; (repeat (intro b1; refine Q.r ?_))
  revert b1
  intro bo
  refine S.cmG (args := [o.n.val]) rfl (NFew_spec o.n M _ ho.n ho.c) ?_
  rintro _ _ ⟨n1, M1, rfl, hl1, hn1, hc1, hoc1, he1, rfl⟩
  have hN1 := few_OkN he1
  have hua1 : NumA n1.abs := NumA.fewL ho.uu he1
  refine opsS_gm p hl1 ?_
  refine opsS_rgm x hl1 ?_
  refine Q.r ?_; (repeat (intro b1; refine Q.r ?_))
  revert b1
  intro b7
  refine S.cmG (args := [n1.val]) rfl (NFew_spec n1 M1 _ hn1 hc1) ?_
  rintro _ _ ⟨n2, M2, rfl, hl2, hn2, hc2, hoc2, he2, rfl⟩
  have he21 : n2.abs = n1.abs := by rw [he2, he1, few_few]
  have e2 : n2.abs = o.n.abs.few := by rw [he21, he1]
  have hN2 := few_OkN he2
  have hua2 : NumA n2.abs := by rw [he21]; exact hua1
  have hu2 : NumN n2 := hua2.nv
  have hM2 := hl1.trans hl2
  have hT2 := hT.mono hM2
  have hufew : NumA o.n.abs.few := few_num ho.uu
  refine opsS_gm p hl2 ?_
  refine opsS_rgm x hl2 ?_
  refine Q.r ?_; (repeat (intro b1; refine Q.r ?_))
  revert b1
  intro b8
  refine S.y (Y.rem rfl rfl (by decide)) ?_
  rw [Int.tmod_eq_emod_of_nonneg ho.dd.1]
  have hd0 : 0 ≤ o.d % 11 := Int.emod_nonneg _ (by decide)
  by_cases h8 : o.d % 11 = 8
  · have hst : stepG j o.d o.fr o.n.abs.few o.w = appG j o.n.abs.few := by unfold stepG stepL; rw [if_pos h8]; rfl
    rw [hst]
    refine Q.r ?_; (repeat (intro b1; refine Q.r ?_))
    refine Q.dgo [true, false, false, false, true] [2, 5, 10] [] [0, 1, 3, 4, 2, 5, 6, 7, 8, 9, 10, 11, 12] ?_
    refine Q.rd ?_; (repeat (intro b1; refine Q.rd ?_))
    refine D.e rfl rfl rfl ?_
    refine S.cg p (args := [ptrG p, n2.val]) rfl (GApply_spec n2 M2 p j _ hw.g hn2 hN2 hT2 hu2 (by have := hua2.txn.2; show n2.abs.txn < _; omega)) ?_
    rintro _ _ ⟨M3, rfl, hl3, rfl⟩
    refine opsS_rgm x hl3 ?_
    refine Q.r ?_; (repeat (intro b1; refine Q.r ?_))
    refine Q.rd ?_; (repeat (intro b1; refine Q.rd ?_))
    refine D.e rfl rfl rfl ?_
    refine S.crg x (args := [.pointer (some ⟨x, 0, none⟩), n1.val]) rfl (RgApp_spec n1 x j M3 _ hw (by omega) (by omega) (hn1.mono (hl2.trans hl3)) hN1 hua1) ?_
    rintro _ _ ⟨M4, rfl, hl4, rfl⟩
    refine opsS_gm p hl4 ?_
    rw [e2, he1]
    refine Q.r ?_; (repeat (intro b1; refine Q.r ?_))
    refine Q.rd ?_; (repeat (intro b1; refine Q.rd ?_))
    refine Q.dT rfl rfl rfl ?_ (by simp)
    refine Q.rd ?_; (repeat (intro b1; refine Q.rd ?_))
    refine D.e rfl rfl rfl ?_
    refine S.guard rfl ?_
    refine S.cr (args := [n2.val, n1.val]) rfl (Same12_spec n2 n1 _ (hn2.mono (hl3.trans hl4)).rd (hn1.mono (hl2.trans (hl3.trans hl4))).rd hN2 hN1 he21) ?_
    rintro _ _ ⟨rfl, rfl⟩
    refine Q.r ?_; (repeat (intro b1; refine Q.r ?_))
    refine Q.rd ?_; (repeat (intro b1; refine Q.rd ?_))
    refine Q.r ?_; (repeat (intro b1; refine Q.r ?_))
    refine N.r1 (RV.tmp rfl RV.nil) ?_ ⟨M4, rfl, hM2.trans (hl3.trans hl4), rfl⟩
    exact Go.SX.Ent.go
  by_cases h9 : o.d % 11 = 9
  · have hst : stepG j o.d o.fr o.n.abs.few o.w = appL j (quitG j).notes := by unfold stepG stepL; rw [if_neg h8, if_pos h9]
    have hqo := quit_ok hw
    rw [hst]
    refine Q.r ?_; (repeat (intro b1; refine Q.r ?_))
    refine S.cg p rfl ((GQuit_spec M2 p j _ hw.g (by omega)).post fun _ _ h => planGR.of0 h) ?_
    rintro _ _ ⟨a1, c1, rs, a2, c2, ns, a3, c3, ms, a4, c4, is, a5, c5, es, M3, rfl, hl3, ⟨o1, o2, o3, o4, o5⟩, ⟨q1, q2, q3, q4, q5⟩, rfl⟩
    refine opsS_rgm x hl3 ?_
    have hnl : ns.length ≤ j.tr.length := by rw [map_len q2]; exact hqo.2.1
    refine Q.r ?_; (repeat (intro b1; refine Q.r ?_))
    refine S.y (Y.fld rfl rfl rfl) ?_
    refine Q.r ?_; (repeat (intro b1; refine Q.r ?_))
    refine S.c3 (A := jdgH M3 p j) (B := rgH M3 x j) (C := roM M3) rfl (Lapply_spec a2 c2 ns p x j M3 _ o2 (fun n hn => ⟨(hqo.1 _ (q2 ▸ List.mem_map_of_mem hn)).1, OkN.of (hqo.1 _ (q2 ▸ List.mem_map_of_mem hn)).2⟩) hw (by omega) (by omega) (hT2.mono hl3)) ?_
    rintro _ _ ⟨M4, rfl, hl4, rfl⟩
    rw [q2]
    refine Q.r ?_; (repeat (intro b1; refine Q.r ?_))
    refine N.r1 (RV.tmp rfl RV.nil) ?_ ⟨M4, rfl, hM2.trans (hl3.trans hl4), rfl⟩
    exact Go.SX.Ent.go
  by_cases h10 : o.d % 11 = 10
  · have hst : stepG j o.d o.fr o.n.abs.few o.w = appL j [epochN (j.epoch + 1)] := by unfold stepG stepL; rw [if_neg h8, if_neg h9, if_pos h10]
    rw [hst]
    have e0 := hb.e0
    have e1 := hb.e1
    refine Q.r ?_; (repeat (intro b1; refine Q.r ?_))
    refine S.cgn p rfl (GEpoch_spec M2 p j _) ?_
    rintro _ _ ⟨rfl, rfl⟩
    refine Q.r ?_; (repeat (intro b1; refine Q.r ?_))
    refine S.y (Y.add rfl rfl) ?_
    rw [show IntKind.u64.wrap (j.epoch + 1) = j.epoch + 1 from wrap_u64 (by omega) (by omega)]
    refine Q.r ?_; (repeat (intro b1; refine Q.r ?_))
    refine opsS_ent (slO_fold (sz := 16) (m := 1) rfl) ?_
    refine opsS_abs (some ⟨b1, 0, none⟩) (fun M3 hl3 hs3 => ?_)
    refine opsS_gm p hl3 ?_
    refine opsS_rgm x hl3 ?_
    have hne : NumA (epochN (j.epoch + 1)) := NumA.of (show (0 : Int) ≤ 16 by decide) (show (16 : Int) ≤ 255 by decide) (Int.le_refl _) (show (0 : Int) ≤ 18446744073709551615 by decide) (Int.le_refl _) (show (0 : Int) ≤ 18446744073709551615 by decide) (Int.le_refl _) (show (0 : Int) ≤ 18446744073709551615 by decide) (Int.le_refl _) (show (0 : Int) ≤ 18446744073709551615 by decide) (show (0 : Int) ≤ 9223372036854775807 by decide) (show 0 ≤ j.epoch + 1 by omega) (show j.epoch + 1 ≤ _ by omega) rfl rfl rfl rfl rfl
    refine S.c3 (A := jdgH M3 p j) (B := rgH M3 x j) (C := roM M3) rfl (Lapply_spec (some ⟨b1, 0, none⟩) 1 [(epochN (j.epoch + 1)).nv] p x j M3 _ ⟨hs3, fun m hm => (by rw [List.mem_singleton.1 hm]; exact okN.nv _)⟩ (fun n hn => (by rw [List.mem_singleton.1 hn]; exact ⟨hne, OkN.of (OkA.bare (Nat.zero_le _) rfl rfl rfl)⟩)) hw (by rw [List.length_singleton]; omega) (by rw [List.length_singleton]; omega) (hT2.mono hl3)) ?_
    rintro _ _ ⟨M4, rfl, hl4, rfl⟩
    rw [show [(epochN (j.epoch + 1)).nv].map NV.abs = [epochN (j.epoch + 1)] from rfl]
    refine Q.r ?_; (repeat (intro b1; refine Q.r ?_))
    refine N.r1 (RV.tmp rfl RV.nil) ?_ ⟨M4, rfl, hM2.trans (hl3.trans hl4), rfl⟩
    exact Go.SX.Ent.go
  have hpn := plan_ok hw s1 s2 hufew o.fr
  have hone := plan_ones j o.fr o.n.abs.few
  have hml := mail_len hw.g s1 s2 o.fr o.n.abs.few
  have hel := els_len hw.g o.fr o.n.abs.few
  refine Q.r ?_; (repeat (intro b1; refine Q.r ?_))
  refine swp_cutT (σ := S7) (fun s => [(0, ptrG p), (1, .pointer (some ⟨x, 0, none⟩)), (5, .pointer (some ⟨bo, 0, none⟩)), (7, .pointer (some ⟨b7, 0, none⟩)), (8, .pointer (some ⟨b8, 0, none⟩)), (9, .pointer (some ⟨s.b9, 0, none⟩)), (10, .pointer (some ⟨s.b10, 0, none⟩))])
    (fun s => p50 s.b9 s.a1 s.c1 s.rs.length s.a2 s.c2 s.ns.length s.a3 s.c3 s.ms.length s.a4 s.c4 s.is.length s.a5 s.c5 s.es.length :: p88 s.b10 s.f1 s.d1 s.rs2.length s.f2 s.d2 s.ns2.length s.f3 s.d3 s.ms2.length s.f4 s.d4 s.is2.length s.f5 s.d5 s.es2.length :: pt b8 (cl n2.cells 52) :: pt b7 (cl n1.cells 39) :: pt bo (cl o.cells 41) :: jdgH s.M p j :: rgH s.M x j :: roM s.M :: L)
    (fun s => P5 s.M (planG j o.fr o.n.abs.few) s.a1 s.rs s.a2 s.ns s.a3 s.ms s.a4 s.is s.a5 s.es ∧ P5 s.M (planG j o.fr o.n.abs.few) s.f1 s.rs2 s.f2 s.ns2 s.f3 s.ms2 s.f4 s.is2 s.f5 s.es2 ∧ leM M2 s.M) ?_ ?_
  ·
    refine Q.dgo [true, false, false, false, true, true] [4, 9, 10, 11, 12, 13] [] [0, 1, 2, 3, 5, 6, 7, 8, 99999, 0, 0, 0, 0, 0] ?_
    repeat (first | refine D.endA ?_ | refine Q.dp rfl rfl rfl ?_ | refine Q.dy rfl rfl rfl ?_ | refine D.end_ ?_ | refine Q.endH ?_ | (refine D.e rfl rfl rfl ?_; (first | refine S.gskip1 rfl ?_ | refine S.gskip rfl ?_ | refine S.y (Y.gskipU rfl) ?_); refine opsS_nil ?_; refine N.tn ?_))
    refine D.three 4 10 11 [99999, 0, 0, 0, 0] [99999, 0, 0, 0, 0] [99999, 0, 0, 0, 0] (by kernel_rfl) rfl rfl rfl rfl rfl rfl (by kernel_rfl) (by kernel_rfl) (by kernel_rfl) ?_ ?_ ?_
    · refine S.cg p (args := [ptrG p, .int .i64 o.fr, n2.val]) rfl (GPlan_spec n2 M2 p j o.fr _ hb hn2 hN2 (hT.mono hM2) hu2.kind) ?_
      rintro _ _ ⟨a1, c1, rs, a2, c2, ns, a3, c3, ms, a4, c4, is, a5, c5, es, M3, rfl, hl3, ⟨o1, o2, o3, o4, o5⟩, ⟨q1, q2, q3, q4, q5⟩, rfl⟩
      refine opsS_rgm x hl3 ?_
      refine Q.r ?_; (repeat (intro b1; refine Q.r ?_))
      repeat (first | refine D.endA ?_ | refine Q.dp rfl rfl rfl ?_ | refine Q.dy rfl rfl rfl ?_ | refine D.end_ ?_ | refine Q.endH ?_ | (refine D.e rfl rfl rfl ?_; (first | refine S.gskip1 rfl ?_ | refine S.gskip rfl ?_ | refine S.y (Y.gskipU rfl) ?_); refine opsS_nil ?_; refine N.tn ?_))
      refine D.three 9 10 11 [99999, 0, 0, 0] [99999, 0, 0, 0] [99999, 0, 0, 0] (by kernel_rfl) rfl rfl rfl rfl rfl rfl (by kernel_rfl) (by kernel_rfl) (by kernel_rfl) ?_ ?_ ?_
      · refine S.crg x (args := [.pointer (some ⟨x, 0, none⟩), .int .i64 o.fr, n1.val]) rfl (RgDo_spec n1 M3 x j o.fr _ hw (by omega) (by omega) (hn1.mono (hl2.trans hl3)) hN1 hoc1 hua1) ?_
        rintro _ _ ⟨f1, d1, rs2, f2, d2, ns2, f3, d3, ms2, f4, d4, is2, f5, d5, es2, M4, rfl, hl4, ⟨o1', o2', o3', o4', o5'⟩, ⟨q1', q2', q3', q4', q5'⟩, rfl⟩
        refine opsS_gm p hl4 ?_
        refine Q.r ?_; (repeat (intro b1; refine Q.r ?_))
        repeat (first | refine D.endA ?_ | refine Q.dp rfl rfl rfl ?_ | refine Q.dy rfl rfl rfl ?_ | refine D.end_ ?_ | refine Q.endH ?_ | (refine D.e rfl rfl rfl ?_; (first | refine S.gskip1 rfl ?_ | refine S.gskip rfl ?_ | refine S.y (Y.gskipU rfl) ?_); refine opsS_nil ?_; refine N.tn ?_))
        refine D.two 10 11 [11, 12, 13] [10, 12, 13] (by kernel_rfl) rfl rfl rfl rfl (by kernel_rfl) (by kernel_rfl) ?_ ?_
        · refine GQ.a ?_
          refine Q.al (fun b9 => ?_)
          refine Q.r ?_; (repeat (intro b1; refine Q.r ?_))
          repeat (first | refine D.endA ?_ | refine Q.dp rfl rfl rfl ?_ | refine Q.dy rfl rfl rfl ?_ | refine D.end_ ?_ | refine Q.endH ?_ | (refine D.e rfl rfl rfl ?_; (first | refine S.gskip1 rfl ?_ | refine S.gskip rfl ?_ | refine S.y (Y.gskipU rfl) ?_); refine opsS_nil ?_; refine N.tn ?_))
          refine D.e rfl rfl rfl ?_
          refine GQ.a ?_
          refine Q.al (fun b10 => ?_)
          refine Q.r ?_; (repeat (intro b1; refine Q.r ?_))
          repeat (first | refine D.endA ?_ | refine Q.dp rfl rfl rfl ?_ | refine Q.dy rfl rfl rfl ?_ | refine D.end_ ?_ | refine Q.endH ?_ | (refine D.e rfl rfl rfl ?_; (first | refine S.gskip1 rfl ?_ | refine S.gskip rfl ?_ | refine S.y (Y.gskipU rfl) ?_); refine opsS_nil ?_; refine N.tn ?_))
          refine D.e rfl rfl rfl ?_
          refine Q.r ?_; (repeat (intro b1; refine Q.r ?_))
          repeat (first | refine D.endA ?_ | refine Q.dp rfl rfl rfl ?_ | refine Q.dy rfl rfl rfl ?_ | refine D.end_ ?_ | refine Q.endH ?_ | (refine D.e rfl rfl rfl ?_; (first | refine S.gskip1 rfl ?_ | refine S.gskip rfl ?_ | refine S.y (Y.gskipU rfl) ?_); refine opsS_nil ?_; refine N.tn ?_))
          refine D.e rfl rfl rfl ?_
          refine Q.r ?_; (repeat (intro b1; refine Q.r ?_))
          repeat (first | refine D.endA ?_ | refine Q.dp rfl rfl rfl ?_ | refine Q.dy rfl rfl rfl ?_ | refine D.end_ ?_ | refine Q.endH ?_ | (refine D.e rfl rfl rfl ?_; (first | refine S.gskip1 rfl ?_ | refine S.gskip rfl ?_ | refine S.y (Y.gskipU rfl) ?_); refine opsS_nil ?_; refine N.tn ?_))
          repeat (first | refine D.endA ?_ | refine Q.dp rfl rfl rfl ?_ | refine Q.dy rfl rfl rfl ?_ | refine D.end_ ?_ | refine Q.endH ?_ | (refine D.e rfl rfl rfl ?_; (first | refine S.gskip1 rfl ?_ | refine S.gskip rfl ?_ | refine S.y (Y.gskipU rfl) ?_); refine opsS_nil ?_; refine N.tn ?_))
          have hp5 : P5 M4 (planG j o.fr o.n.abs.few) a1 rs a2 ns a3 ms a4 is a5 es := ⟨o1.mono hl4, o2.mono hl4, o3.mono hl4, o4.mono hl4, o5.mono hl4, e2 ▸ q1, e2 ▸ q2, e2 ▸ q3, e2 ▸ q4, e2 ▸ q5⟩
          have hp5' : P5 M4 (planG j o.fr o.n.abs.few) f1 rs2 f2 ns2 f3 ms2 f4 is2 f5 es2 := ⟨o1', o2', o3', o4', o5', he1 ▸ q1', he1 ▸ q2', he1 ▸ q3', he1 ▸ q4', he1 ▸ q5'⟩
          refine N.tn ⟨⟨b9, b10, a1, c1, rs, a2, c2, ns, a3, c3, ms, a4, c4, is, a5, c5, es, f1, d1, rs2, f2, d2, ns2, f3, d3, ms2, f4, d4, is2, f5, d5, es2, M4⟩, ⟨rfl, rfl, rfl, rfl, rfl, rfl, rfl, trivial⟩, ?_, hp5, hp5', hl3.trans hl4⟩
          (try dsimp only); exact Go.SX.Ent.go
        · refine GQ.a ?_
          refine Q.al (fun b10 => ?_)
          refine Q.r ?_; (repeat (intro b1; refine Q.r ?_))
          repeat (first | refine D.endA ?_ | refine Q.dp rfl rfl rfl ?_ | refine Q.dy rfl rfl rfl ?_ | refine D.end_ ?_ | refine Q.endH ?_ | (refine D.e rfl rfl rfl ?_; (first | refine S.gskip1 rfl ?_ | refine S.gskip rfl ?_ | refine S.y (Y.gskipU rfl) ?_); refine opsS_nil ?_; refine N.tn ?_))
          refine D.e rfl rfl rfl ?_
          refine GQ.a ?_
          refine Q.al (fun b9 => ?_)
          refine Q.r ?_; (repeat (intro b1; refine Q.r ?_))
          repeat (first | refine D.endA ?_ | refine Q.dp rfl rfl rfl ?_ | refine Q.dy rfl rfl rfl ?_ | refine D.end_ ?_ | refine Q.endH ?_ | (refine D.e rfl rfl rfl ?_; (first | refine S.gskip1 rfl ?_ | refine S.gskip rfl ?_ | refine S.y (Y.gskipU rfl) ?_); refine opsS_nil ?_; refine N.tn ?_))
          refine D.e rfl rfl rfl ?_
          refine Q.r ?_; (repeat (intro b1; refine Q.r ?_))
          repeat (first | refine D.endA ?_ | refine Q.dp rfl rfl rfl ?_ | refine Q.dy rfl rfl rfl ?_ | refine D.end_ ?_ | refine Q.endH ?_ | (refine D.e rfl rfl rfl ?_; (first | refine S.gskip1 rfl ?_ | refine S.gskip rfl ?_ | refine S.y (Y.gskipU rfl) ?_); refine opsS_nil ?_; refine N.tn ?_))
          refine D.e rfl rfl rfl ?_
          refine Q.r ?_; (repeat (intro b1; refine Q.r ?_))
          repeat (first | refine D.endA ?_ | refine Q.dp rfl rfl rfl ?_ | refine Q.dy rfl rfl rfl ?_ | refine D.end_ ?_ | refine Q.endH ?_ | (refine D.e rfl rfl rfl ?_; (first | refine S.gskip1 rfl ?_ | refine S.gskip rfl ?_ | refine S.y (Y.gskipU rfl) ?_); refine opsS_nil ?_; refine N.tn ?_))
          repeat (first | refine D.endA ?_ | refine Q.dp rfl rfl rfl ?_ | refine Q.dy rfl rfl rfl ?_ | refine D.end_ ?_ | refine Q.endH ?_ | (refine D.e rfl rfl rfl ?_; (first | refine S.gskip1 rfl ?_ | refine S.gskip rfl ?_ | refine S.y (Y.gskipU rfl) ?_); refine opsS_nil ?_; refine N.tn ?_))
          have hp5 : P5 M4 (planG j o.fr o.n.abs.few) a1 rs a2 ns a3 ms a4 is a5 es := ⟨o1.mono hl4, o2.mono hl4, o3.mono hl4, o4.mono hl4, o5.mono hl4, e2 ▸ q1, e2 ▸ q2, e2 ▸ q3, e2 ▸ q4, e2 ▸ q5⟩
          have hp5' : P5 M4 (planG j o.fr o.n.abs.few) f1 rs2 f2 ns2 f3 ms2 f4 is2 f5 es2 := ⟨o1', o2', o3', o4', o5', he1 ▸ q1', he1 ▸ q2', he1 ▸ q3', he1 ▸ q4', he1 ▸ q5'⟩
          refine N.tn ⟨⟨b9, b10, a1, c1, rs, a2, c2, ns, a3, c3, ms, a4, c4, is, a5, c5, es, f1, d1, rs2, f2, d2, ns2, f3, d3, ms2, f4, d4, is2, f5, d5, es2, M4⟩, ⟨rfl, rfl, rfl, rfl, rfl, rfl, rfl, trivial⟩, ?_, hp5, hp5', hl3.trans hl4⟩
          (try dsimp only); exact Go.SX.Ent.go
      · refine GQ.a ?_
        refine Q.al (fun b9 => ?_)
        refine Q.r ?_; (repeat (intro b1; refine Q.r ?_))
        repeat (first | refine D.endA ?_ | refine Q.dp rfl rfl rfl ?_ | refine Q.dy rfl rfl rfl ?_ | refine D.end_ ?_ | refine Q.endH ?_ | (refine D.e rfl rfl rfl ?_; (first | refine S.gskip1 rfl ?_ | refine S.gskip rfl ?_ | refine S.y (Y.gskipU rfl) ?_); refine opsS_nil ?_; refine N.tn ?_))
        refine D.two 9 11 [11, 12, 13] [9, 12, 13] (by kernel_rfl) rfl rfl rfl rfl (by kernel_rfl) (by kernel_rfl) ?_ ?_
        · refine S.crg x (args := [.pointer (some ⟨x, 0, none⟩), .int .i64 o.fr, n1.val]) rfl (RgDo_spec n1 M3 x j o.fr _ hw (by omega) (by omega) (hn1.mono (hl2.trans hl3)) hN1 hoc1 hua1) ?_
          rintro _ _ ⟨f1, d1, rs2, f2, d2, ns2, f3, d3, ms2, f4, d4, is2, f5, d5, es2, M4, rfl, hl4, ⟨o1', o2', o3', o4', o5'⟩, ⟨q1', q2', q3', q4', q5'⟩, rfl⟩
          refine opsS_gm p hl4 ?_
          refine Q.r ?_; (repeat (intro b1; refine Q.r ?_))
          repeat (first | refine D.endA ?_ | refine Q.dp rfl rfl rfl ?_ | refine Q.dy rfl rfl rfl ?_ | refine D.end_ ?_ | refine Q.endH ?_ | (refine D.e rfl rfl rfl ?_; (first | refine S.gskip1 rfl ?_ | refine S.gskip rfl ?_ | refine S.y (Y.gskipU rfl) ?_); refine opsS_nil ?_; refine N.tn ?_))
          refine D.e rfl rfl rfl ?_
          refine GQ.a ?_
          refine Q.al (fun b10 => ?_)
          refine Q.r ?_; (repeat (intro b1; refine Q.r ?_))
          repeat (first | refine D.endA ?_ | refine Q.dp rfl rfl rfl ?_ | refine Q.dy rfl rfl rfl ?_ | refine D.end_ ?_ | refine Q.endH ?_ | (refine D.e rfl rfl rfl ?_; (first | refine S.gskip1 rfl ?_ | refine S.gskip rfl ?_ | refine S.y (Y.gskipU rfl) ?_); refine opsS_nil ?_; refine N.tn ?_))
          refine D.e rfl rfl rfl ?_
          refine Q.r ?_; (repeat (intro b1; refine Q.r ?_))
          repeat (first | refine D.endA ?_ | refine Q.dp rfl rfl rfl ?_ | refine Q.dy rfl rfl rfl ?_ | refine D.end_ ?_ | refine Q.endH ?_ | (refine D.e rfl rfl rfl ?_; (first | refine S.gskip1 rfl ?_ | refine S.gskip rfl ?_ | refine S.y (Y.gskipU rfl) ?_); refine opsS_nil ?_; refine N.tn ?_))
          refine D.e rfl rfl rfl ?_
          refine Q.r ?_; (repeat (intro b1; refine Q.r ?_))
          repeat (first | refine D.endA ?_ | refine Q.dp rfl rfl rfl ?_ | refine Q.dy rfl rfl rfl ?_ | refine D.end_ ?_ | refine Q.endH ?_ | (refine D.e rfl rfl rfl ?_; (first | refine S.gskip1 rfl ?_ | refine S.gskip rfl ?_ | refine S.y (Y.gskipU rfl) ?_); refine opsS_nil ?_; refine N.tn ?_))
          repeat (first | refine D.endA ?_ | refine Q.dp rfl rfl rfl ?_ | refine Q.dy rfl rfl rfl ?_ | refine D.end_ ?_ | refine Q.endH ?_ | (refine D.e rfl rfl rfl ?_; (first | refine S.gskip1 rfl ?_ | refine S.gskip rfl ?_ | refine S.y (Y.gskipU rfl) ?_); refine opsS_nil ?_; refine N.tn ?_))
          have hp5 : P5 M4 (planG j o.fr o.n.abs.few) a1 rs a2 ns a3 ms a4 is a5 es := ⟨o1.mono hl4, o2.mono hl4, o3.mono hl4, o4.mono hl4, o5.mono hl4, e2 ▸ q1, e2 ▸ q2, e2 ▸ q3, e2 ▸ q4, e2 ▸ q5⟩
          have hp5' : P5 M4 (planG j o.fr o.n.abs.few) f1 rs2 f2 ns2 f3 ms2 f4 is2 f5 es2 := ⟨o1', o2', o3', o4', o5', he1 ▸ q1', he1 ▸ q2', he1 ▸ q3', he1 ▸ q4', he1 ▸ q5'⟩
          refine N.tn ⟨⟨b9, b10, a1, c1, rs, a2, c2, ns, a3, c3, ms, a4, c4, is, a5, c5, es, f1, d1, rs2, f2, d2, ns2, f3, d3, ms2, f4, d4, is2, f5, d5, es2, M4⟩, ⟨rfl, rfl, rfl, rfl, rfl, rfl, rfl, trivial⟩, ?_, hp5, hp5', hl3.trans hl4⟩
          (try dsimp only); exact Go.SX.Ent.go
        · refine GQ.a ?_
          refine Q.al (fun b10 => ?_)
          refine Q.r ?_; (repeat (intro b1; refine Q.r ?_))
          repeat (first | refine D.endA ?_ | refine Q.dp rfl rfl rfl ?_ | refine Q.dy rfl rfl rfl ?_ | refine D.end_ ?_ | refine Q.endH ?_ | (refine D.e rfl rfl rfl ?_; (first | refine S.gskip1 rfl ?_ | refine S.gskip rfl ?_ | refine S.y (Y.gskipU rfl) ?_); refine opsS_nil ?_; refine N.tn ?_))
          refine D.e rfl rfl rfl ?_
          refine S.crg x (args := [.pointer (some ⟨x, 0, none⟩), .int .i64 o.fr, n1.val]) rfl (RgDo_spec n1 M3 x j o.fr _ hw (by omega) (by omega) (hn1.mono (hl2.trans hl3)) hN1 hoc1 hua1) ?_
          rintro _ _ ⟨f1, d1, rs2, f2, d2, ns2, f3, d3, ms2, f4, d4, is2, f5, d5, es2, M4, rfl, hl4, ⟨o1', o2', o3', o4', o5'⟩, ⟨q1', q2', q3', q4', q5'⟩, rfl⟩
          refine opsS_gm p hl4 ?_
          refine Q.r ?_; (repeat (intro b1; refine Q.r ?_))
          repeat (first | refine D.endA ?_ | refine Q.dp rfl rfl rfl ?_ | refine Q.dy rfl rfl rfl ?_ | refine D.end_ ?_ | refine Q.endH ?_ | (refine D.e rfl rfl rfl ?_; (first | refine S.gskip1 rfl ?_ | refine S.gskip rfl ?_ | refine S.y (Y.gskipU rfl) ?_); refine opsS_nil ?_; refine N.tn ?_))
          refine D.e rfl rfl rfl ?_
          refine Q.r ?_; (repeat (intro b1; refine Q.r ?_))
          repeat (first | refine D.endA ?_ | refine Q.dp rfl rfl rfl ?_ | refine Q.dy rfl rfl rfl ?_ | refine D.end_ ?_ | refine Q.endH ?_ | (refine D.e rfl rfl rfl ?_; (first | refine S.gskip1 rfl ?_ | refine S.gskip rfl ?_ | refine S.y (Y.gskipU rfl) ?_); refine opsS_nil ?_; refine N.tn ?_))
          refine D.e rfl rfl rfl ?_
          refine Q.r ?_; (repeat (intro b1; refine Q.r ?_))
          repeat (first | refine D.endA ?_ | refine Q.dp rfl rfl rfl ?_ | refine Q.dy rfl rfl rfl ?_ | refine D.end_ ?_ | refine Q.endH ?_ | (refine D.e rfl rfl rfl ?_; (first | refine S.gskip1 rfl ?_ | refine S.gskip rfl ?_ | refine S.y (Y.gskipU rfl) ?_); refine opsS_nil ?_; refine N.tn ?_))
          repeat (first | refine D.endA ?_ | refine Q.dp rfl rfl rfl ?_ | refine Q.dy rfl rfl rfl ?_ | refine D.end_ ?_ | refine Q.endH ?_ | (refine D.e rfl rfl rfl ?_; (first | refine S.gskip1 rfl ?_ | refine S.gskip rfl ?_ | refine S.y (Y.gskipU rfl) ?_); refine opsS_nil ?_; refine N.tn ?_))
          have hp5 : P5 M4 (planG j o.fr o.n.abs.few) a1 rs a2 ns a3 ms a4 is a5 es := ⟨o1.mono hl4, o2.mono hl4, o3.mono hl4, o4.mono hl4, o5.mono hl4, e2 ▸ q1, e2 ▸ q2, e2 ▸ q3, e2 ▸ q4, e2 ▸ q5⟩
          have hp5' : P5 M4 (planG j o.fr o.n.abs.few) f1 rs2 f2 ns2 f3 ms2 f4 is2 f5 es2 := ⟨o1', o2', o3', o4', o5', he1 ▸ q1', he1 ▸ q2', he1 ▸ q3', he1 ▸ q4', he1 ▸ q5'⟩
          refine N.tn ⟨⟨b9, b10, a1, c1, rs, a2, c2, ns, a3, c3, ms, a4, c4, is, a5, c5, es, f1, d1, rs2, f2, d2, ns2, f3, d3, ms2, f4, d4, is2, f5, d5, es2, M4⟩, ⟨rfl, rfl, rfl, rfl, rfl, rfl, rfl, trivial⟩, ?_, hp5, hp5', hl3.trans hl4⟩
          (try dsimp only); exact Go.SX.Ent.go
      · refine GQ.a ?_
        refine Q.al (fun b10 => ?_)
        refine Q.r ?_; (repeat (intro b1; refine Q.r ?_))
        repeat (first | refine D.endA ?_ | refine Q.dp rfl rfl rfl ?_ | refine Q.dy rfl rfl rfl ?_ | refine D.end_ ?_ | refine Q.endH ?_ | (refine D.e rfl rfl rfl ?_; (first | refine S.gskip1 rfl ?_ | refine S.gskip rfl ?_ | refine S.y (Y.gskipU rfl) ?_); refine opsS_nil ?_; refine N.tn ?_))
        refine D.two 9 10 [10, 12, 13] [9, 12, 13] (by kernel_rfl) rfl rfl rfl rfl (by kernel_rfl) (by kernel_rfl) ?_ ?_
        · refine S.crg x (args := [.pointer (some ⟨x, 0, none⟩), .int .i64 o.fr, n1.val]) rfl (RgDo_spec n1 M3 x j o.fr _ hw (by omega) (by omega) (hn1.mono (hl2.trans hl3)) hN1 hoc1 hua1) ?_
          rintro _ _ ⟨f1, d1, rs2, f2, d2, ns2, f3, d3, ms2, f4, d4, is2, f5, d5, es2, M4, rfl, hl4, ⟨o1', o2', o3', o4', o5'⟩, ⟨q1', q2', q3', q4', q5'⟩, rfl⟩
          refine opsS_gm p hl4 ?_
          refine Q.r ?_; (repeat (intro b1; refine Q.r ?_))
          repeat (first | refine D.endA ?_ | refine Q.dp rfl rfl rfl ?_ | refine Q.dy rfl rfl rfl ?_ | refine D.end_ ?_ | refine Q.endH ?_ | (refine D.e rfl rfl rfl ?_; (first | refine S.gskip1 rfl ?_ | refine S.gskip rfl ?_ | refine S.y (Y.gskipU rfl) ?_); refine opsS_nil ?_; refine N.tn ?_))
          refine D.e rfl rfl rfl ?_
          refine GQ.a ?_
          refine Q.al (fun b9 => ?_)
          refine Q.r ?_; (repeat (intro b1; refine Q.r ?_))
          repeat (first | refine D.endA ?_ | refine Q.dp rfl rfl rfl ?_ | refine Q.dy rfl rfl rfl ?_ | refine D.end_ ?_ | refine Q.endH ?_ | (refine D.e rfl rfl rfl ?_; (first | refine S.gskip1 rfl ?_ | refine S.gskip rfl ?_ | refine S.y (Y.gskipU rfl) ?_); refine opsS_nil ?_; refine N.tn ?_))
          refine D.e rfl rfl rfl ?_
          refine Q.r ?_; (repeat (intro b1; refine Q.r ?_))
          repeat (first | refine D.endA ?_ | refine Q.dp rfl rfl rfl ?_ | refine Q.dy rfl rfl rfl ?_ | refine D.end_ ?_ | refine Q.endH ?_ | (refine D.e rfl rfl rfl ?_; (first | refine S.gskip1 rfl ?_ | refine S.gskip rfl ?_ | refine S.y (Y.gskipU rfl) ?_); refine opsS_nil ?_; refine N.tn ?_))
          refine D.e rfl rfl rfl ?_
          refine Q.r ?_; (repeat (intro b1; refine Q.r ?_))
          repeat (first | refine D.endA ?_ | refine Q.dp rfl rfl rfl ?_ | refine Q.dy rfl rfl rfl ?_ | refine D.end_ ?_ | refine Q.endH ?_ | (refine D.e rfl rfl rfl ?_; (first | refine S.gskip1 rfl ?_ | refine S.gskip rfl ?_ | refine S.y (Y.gskipU rfl) ?_); refine opsS_nil ?_; refine N.tn ?_))
          repeat (first | refine D.endA ?_ | refine Q.dp rfl rfl rfl ?_ | refine Q.dy rfl rfl rfl ?_ | refine D.end_ ?_ | refine Q.endH ?_ | (refine D.e rfl rfl rfl ?_; (first | refine S.gskip1 rfl ?_ | refine S.gskip rfl ?_ | refine S.y (Y.gskipU rfl) ?_); refine opsS_nil ?_; refine N.tn ?_))
          have hp5 : P5 M4 (planG j o.fr o.n.abs.few) a1 rs a2 ns a3 ms a4 is a5 es := ⟨o1.mono hl4, o2.mono hl4, o3.mono hl4, o4.mono hl4, o5.mono hl4, e2 ▸ q1, e2 ▸ q2, e2 ▸ q3, e2 ▸ q4, e2 ▸ q5⟩
          have hp5' : P5 M4 (planG j o.fr o.n.abs.few) f1 rs2 f2 ns2 f3 ms2 f4 is2 f5 es2 := ⟨o1', o2', o3', o4', o5', he1 ▸ q1', he1 ▸ q2', he1 ▸ q3', he1 ▸ q4', he1 ▸ q5'⟩
          refine N.tn ⟨⟨b9, b10, a1, c1, rs, a2, c2, ns, a3, c3, ms, a4, c4, is, a5, c5, es, f1, d1, rs2, f2, d2, ns2, f3, d3, ms2, f4, d4, is2, f5, d5, es2, M4⟩, ⟨rfl, rfl, rfl, rfl, rfl, rfl, rfl, trivial⟩, ?_, hp5, hp5', hl3.trans hl4⟩
          (try dsimp only); exact Go.SX.Ent.go
        · refine GQ.a ?_
          refine Q.al (fun b9 => ?_)
          refine Q.r ?_; (repeat (intro b1; refine Q.r ?_))
          repeat (first | refine D.endA ?_ | refine Q.dp rfl rfl rfl ?_ | refine Q.dy rfl rfl rfl ?_ | refine D.end_ ?_ | refine Q.endH ?_ | (refine D.e rfl rfl rfl ?_; (first | refine S.gskip1 rfl ?_ | refine S.gskip rfl ?_ | refine S.y (Y.gskipU rfl) ?_); refine opsS_nil ?_; refine N.tn ?_))
          refine D.e rfl rfl rfl ?_
          refine S.crg x (args := [.pointer (some ⟨x, 0, none⟩), .int .i64 o.fr, n1.val]) rfl (RgDo_spec n1 M3 x j o.fr _ hw (by omega) (by omega) (hn1.mono (hl2.trans hl3)) hN1 hoc1 hua1) ?_
          rintro _ _ ⟨f1, d1, rs2, f2, d2, ns2, f3, d3, ms2, f4, d4, is2, f5, d5, es2, M4, rfl, hl4, ⟨o1', o2', o3', o4', o5'⟩, ⟨q1', q2', q3', q4', q5'⟩, rfl⟩
          refine opsS_gm p hl4 ?_
          refine Q.r ?_; (repeat (intro b1; refine Q.r ?_))
          repeat (first | refine D.endA ?_ | refine Q.dp rfl rfl rfl ?_ | refine Q.dy rfl rfl rfl ?_ | refine D.end_ ?_ | refine Q.endH ?_ | (refine D.e rfl rfl rfl ?_; (first | refine S.gskip1 rfl ?_ | refine S.gskip rfl ?_ | refine S.y (Y.gskipU rfl) ?_); refine opsS_nil ?_; refine N.tn ?_))
          refine D.e rfl rfl rfl ?_
          refine Q.r ?_; (repeat (intro b1; refine Q.r ?_))
          repeat (first | refine D.endA ?_ | refine Q.dp rfl rfl rfl ?_ | refine Q.dy rfl rfl rfl ?_ | refine D.end_ ?_ | refine Q.endH ?_ | (refine D.e rfl rfl rfl ?_; (first | refine S.gskip1 rfl ?_ | refine S.gskip rfl ?_ | refine S.y (Y.gskipU rfl) ?_); refine opsS_nil ?_; refine N.tn ?_))
          refine D.e rfl rfl rfl ?_
          refine Q.r ?_; (repeat (intro b1; refine Q.r ?_))
          repeat (first | refine D.endA ?_ | refine Q.dp rfl rfl rfl ?_ | refine Q.dy rfl rfl rfl ?_ | refine D.end_ ?_ | refine Q.endH ?_ | (refine D.e rfl rfl rfl ?_; (first | refine S.gskip1 rfl ?_ | refine S.gskip rfl ?_ | refine S.y (Y.gskipU rfl) ?_); refine opsS_nil ?_; refine N.tn ?_))
          repeat (first | refine D.endA ?_ | refine Q.dp rfl rfl rfl ?_ | refine Q.dy rfl rfl rfl ?_ | refine D.end_ ?_ | refine Q.endH ?_ | (refine D.e rfl rfl rfl ?_; (first | refine S.gskip1 rfl ?_ | refine S.gskip rfl ?_ | refine S.y (Y.gskipU rfl) ?_); refine opsS_nil ?_; refine N.tn ?_))
          have hp5 : P5 M4 (planG j o.fr o.n.abs.few) a1 rs a2 ns a3 ms a4 is a5 es := ⟨o1.mono hl4, o2.mono hl4, o3.mono hl4, o4.mono hl4, o5.mono hl4, e2 ▸ q1, e2 ▸ q2, e2 ▸ q3, e2 ▸ q4, e2 ▸ q5⟩
          have hp5' : P5 M4 (planG j o.fr o.n.abs.few) f1 rs2 f2 ns2 f3 ms2 f4 is2 f5 es2 := ⟨o1', o2', o3', o4', o5', he1 ▸ q1', he1 ▸ q2', he1 ▸ q3', he1 ▸ q4', he1 ▸ q5'⟩
          refine N.tn ⟨⟨b9, b10, a1, c1, rs, a2, c2, ns, a3, c3, ms, a4, c4, is, a5, c5, es, f1, d1, rs2, f2, d2, ns2, f3, d3, ms2, f4, d4, is2, f5, d5, es2, M4⟩, ⟨rfl, rfl, rfl, rfl, rfl, rfl, rfl, trivial⟩, ?_, hp5, hp5', hl3.trans hl4⟩
          (try dsimp only); exact Go.SX.Ent.go
    · refine GQ.a ?_
      refine Q.al (fun b9 => ?_)
      refine Q.r ?_; (repeat (intro b1; refine Q.r ?_))
      repeat (first | refine D.endA ?_ | refine Q.dp rfl rfl rfl ?_ | refine Q.dy rfl rfl rfl ?_ | refine D.end_ ?_ | refine Q.endH ?_ | (refine D.e rfl rfl rfl ?_; (first | refine S.gskip1 rfl ?_ | refine S.gskip rfl ?_ | refine S.y (Y.gskipU rfl) ?_); refine opsS_nil ?_; refine N.tn ?_))
      refine D.two 4 11 [99999, 0, 0, 0] [4, 9, 12, 13] (by kernel_rfl) rfl rfl rfl rfl (by kernel_rfl) (by kernel_rfl) ?_ ?_
      · refine S.cg p (args := [ptrG p, .int .i64 o.fr, n2.val]) rfl (GPlan_spec n2 M2 p j o.fr _ hb hn2 hN2 (hT.mono hM2) hu2.kind) ?_
        rintro _ _ ⟨a1, c1, rs, a2, c2, ns, a3, c3, ms, a4, c4, is, a5, c5, es, M3, rfl, hl3, ⟨o1, o2, o3, o4, o5⟩, ⟨q1, q2, q3, q4, q5⟩, rfl⟩
        refine opsS_rgm x hl3 ?_
        refine Q.r ?_; (repeat (intro b1; refine Q.r ?_))
        repeat (first | refine D.endA ?_ | refine Q.dp rfl rfl rfl ?_ | refine Q.dy rfl rfl rfl ?_ | refine D.end_ ?_ | refine Q.endH ?_ | (refine D.e rfl rfl rfl ?_; (first | refine S.gskip1 rfl ?_ | refine S.gskip rfl ?_ | refine S.y (Y.gskipU rfl) ?_); refine opsS_nil ?_; refine N.tn ?_))
        refine D.two 9 11 [11, 12, 13] [9, 12, 13] (by kernel_rfl) rfl rfl rfl rfl (by kernel_rfl) (by kernel_rfl) ?_ ?_
        · refine S.crg x (args := [.pointer (some ⟨x, 0, none⟩), .int .i64 o.fr, n1.val]) rfl (RgDo_spec n1 M3 x j o.fr _ hw (by omega) (by omega) (hn1.mono (hl2.trans hl3)) hN1 hoc1 hua1) ?_
          rintro _ _ ⟨f1, d1, rs2, f2, d2, ns2, f3, d3, ms2, f4, d4, is2, f5, d5, es2, M4, rfl, hl4, ⟨o1', o2', o3', o4', o5'⟩, ⟨q1', q2', q3', q4', q5'⟩, rfl⟩
          refine opsS_gm p hl4 ?_
          refine Q.r ?_; (repeat (intro b1; refine Q.r ?_))
          repeat (first | refine D.endA ?_ | refine Q.dp rfl rfl rfl ?_ | refine Q.dy rfl rfl rfl ?_ | refine D.end_ ?_ | refine Q.endH ?_ | (refine D.e rfl rfl rfl ?_; (first | refine S.gskip1 rfl ?_ | refine S.gskip rfl ?_ | refine S.y (Y.gskipU rfl) ?_); refine opsS_nil ?_; refine N.tn ?_))
          refine D.e rfl rfl rfl ?_
          refine GQ.a ?_
          refine Q.al (fun b10 => ?_)
          refine Q.r ?_; (repeat (intro b1; refine Q.r ?_))
          repeat (first | refine D.endA ?_ | refine Q.dp rfl rfl rfl ?_ | refine Q.dy rfl rfl rfl ?_ | refine D.end_ ?_ | refine Q.endH ?_ | (refine D.e rfl rfl rfl ?_; (first | refine S.gskip1 rfl ?_ | refine S.gskip rfl ?_ | refine S.y (Y.gskipU rfl) ?_); refine opsS_nil ?_; refine N.tn ?_))
          refine D.e rfl rfl rfl ?_
          refine Q.r ?_; (repeat (intro b1; refine Q.r ?_))
          repeat (first | refine D.endA ?_ | refine Q.dp rfl rfl rfl ?_ | refine Q.dy rfl rfl rfl ?_ | refine D.end_ ?_ | refine Q.endH ?_ | (refine D.e rfl rfl rfl ?_; (first | refine S.gskip1 rfl ?_ | refine S.gskip rfl ?_ | refine S.y (Y.gskipU rfl) ?_); refine opsS_nil ?_; refine N.tn ?_))
          refine D.e rfl rfl rfl ?_
          refine Q.r ?_; (repeat (intro b1; refine Q.r ?_))
          repeat (first | refine D.endA ?_ | refine Q.dp rfl rfl rfl ?_ | refine Q.dy rfl rfl rfl ?_ | refine D.end_ ?_ | refine Q.endH ?_ | (refine D.e rfl rfl rfl ?_; (first | refine S.gskip1 rfl ?_ | refine S.gskip rfl ?_ | refine S.y (Y.gskipU rfl) ?_); refine opsS_nil ?_; refine N.tn ?_))
          repeat (first | refine D.endA ?_ | refine Q.dp rfl rfl rfl ?_ | refine Q.dy rfl rfl rfl ?_ | refine D.end_ ?_ | refine Q.endH ?_ | (refine D.e rfl rfl rfl ?_; (first | refine S.gskip1 rfl ?_ | refine S.gskip rfl ?_ | refine S.y (Y.gskipU rfl) ?_); refine opsS_nil ?_; refine N.tn ?_))
          have hp5 : P5 M4 (planG j o.fr o.n.abs.few) a1 rs a2 ns a3 ms a4 is a5 es := ⟨o1.mono hl4, o2.mono hl4, o3.mono hl4, o4.mono hl4, o5.mono hl4, e2 ▸ q1, e2 ▸ q2, e2 ▸ q3, e2 ▸ q4, e2 ▸ q5⟩
          have hp5' : P5 M4 (planG j o.fr o.n.abs.few) f1 rs2 f2 ns2 f3 ms2 f4 is2 f5 es2 := ⟨o1', o2', o3', o4', o5', he1 ▸ q1', he1 ▸ q2', he1 ▸ q3', he1 ▸ q4', he1 ▸ q5'⟩
          refine N.tn ⟨⟨b9, b10, a1, c1, rs, a2, c2, ns, a3, c3, ms, a4, c4, is, a5, c5, es, f1, d1, rs2, f2, d2, ns2, f3, d3, ms2, f4, d4, is2, f5, d5, es2, M4⟩, ⟨rfl, rfl, rfl, rfl, rfl, rfl, rfl, trivial⟩, ?_, hp5, hp5', hl3.trans hl4⟩
          (try dsimp only); exact Go.SX.Ent.go
        · refine GQ.a ?_
          refine Q.al (fun b10 => ?_)
          refine Q.r ?_; (repeat (intro b1; refine Q.r ?_))
          repeat (first | refine D.endA ?_ | refine Q.dp rfl rfl rfl ?_ | refine Q.dy rfl rfl rfl ?_ | refine D.end_ ?_ | refine Q.endH ?_ | (refine D.e rfl rfl rfl ?_; (first | refine S.gskip1 rfl ?_ | refine S.gskip rfl ?_ | refine S.y (Y.gskipU rfl) ?_); refine opsS_nil ?_; refine N.tn ?_))
          refine D.e rfl rfl rfl ?_
          refine S.crg x (args := [.pointer (some ⟨x, 0, none⟩), .int .i64 o.fr, n1.val]) rfl (RgDo_spec n1 M3 x j o.fr _ hw (by omega) (by omega) (hn1.mono (hl2.trans hl3)) hN1 hoc1 hua1) ?_
          rintro _ _ ⟨f1, d1, rs2, f2, d2, ns2, f3, d3, ms2, f4, d4, is2, f5, d5, es2, M4, rfl, hl4, ⟨o1', o2', o3', o4', o5'⟩, ⟨q1', q2', q3', q4', q5'⟩, rfl⟩
          refine opsS_gm p hl4 ?_
          refine Q.r ?_; (repeat (intro b1; refine Q.r ?_))
          repeat (first | refine D.endA ?_ | refine Q.dp rfl rfl rfl ?_ | refine Q.dy rfl rfl rfl ?_ | refine D.end_ ?_ | refine Q.endH ?_ | (refine D.e rfl rfl rfl ?_; (first | refine S.gskip1 rfl ?_ | refine S.gskip rfl ?_ | refine S.y (Y.gskipU rfl) ?_); refine opsS_nil ?_; refine N.tn ?_))
          refine D.e rfl rfl rfl ?_
          refine Q.r ?_; (repeat (intro b1; refine Q.r ?_))
          repeat (first | refine D.endA ?_ | refine Q.dp rfl rfl rfl ?_ | refine Q.dy rfl rfl rfl ?_ | refine D.end_ ?_ | refine Q.endH ?_ | (refine D.e rfl rfl rfl ?_; (first | refine S.gskip1 rfl ?_ | refine S.gskip rfl ?_ | refine S.y (Y.gskipU rfl) ?_); refine opsS_nil ?_; refine N.tn ?_))
          refine D.e rfl rfl rfl ?_
          refine Q.r ?_; (repeat (intro b1; refine Q.r ?_))
          repeat (first | refine D.endA ?_ | refine Q.dp rfl rfl rfl ?_ | refine Q.dy rfl rfl rfl ?_ | refine D.end_ ?_ | refine Q.endH ?_ | (refine D.e rfl rfl rfl ?_; (first | refine S.gskip1 rfl ?_ | refine S.gskip rfl ?_ | refine S.y (Y.gskipU rfl) ?_); refine opsS_nil ?_; refine N.tn ?_))
          repeat (first | refine D.endA ?_ | refine Q.dp rfl rfl rfl ?_ | refine Q.dy rfl rfl rfl ?_ | refine D.end_ ?_ | refine Q.endH ?_ | (refine D.e rfl rfl rfl ?_; (first | refine S.gskip1 rfl ?_ | refine S.gskip rfl ?_ | refine S.y (Y.gskipU rfl) ?_); refine opsS_nil ?_; refine N.tn ?_))
          have hp5 : P5 M4 (planG j o.fr o.n.abs.few) a1 rs a2 ns a3 ms a4 is a5 es := ⟨o1.mono hl4, o2.mono hl4, o3.mono hl4, o4.mono hl4, o5.mono hl4, e2 ▸ q1, e2 ▸ q2, e2 ▸ q3, e2 ▸ q4, e2 ▸ q5⟩
          have hp5' : P5 M4 (planG j o.fr o.n.abs.few) f1 rs2 f2 ns2 f3 ms2 f4 is2 f5 es2 := ⟨o1', o2', o3', o4', o5', he1 ▸ q1', he1 ▸ q2', he1 ▸ q3', he1 ▸ q4', he1 ▸ q5'⟩
          refine N.tn ⟨⟨b9, b10, a1, c1, rs, a2, c2, ns, a3, c3, ms, a4, c4, is, a5, c5, es, f1, d1, rs2, f2, d2, ns2, f3, d3, ms2, f4, d4, is2, f5, d5, es2, M4⟩, ⟨rfl, rfl, rfl, rfl, rfl, rfl, rfl, trivial⟩, ?_, hp5, hp5', hl3.trans hl4⟩
          (try dsimp only); exact Go.SX.Ent.go
      · refine GQ.a ?_
        refine Q.al (fun b10 => ?_)
        refine Q.r ?_; (repeat (intro b1; refine Q.r ?_))
        repeat (first | refine D.endA ?_ | refine Q.dp rfl rfl rfl ?_ | refine Q.dy rfl rfl rfl ?_ | refine D.end_ ?_ | refine Q.endH ?_ | (refine D.e rfl rfl rfl ?_; (first | refine S.gskip1 rfl ?_ | refine S.gskip rfl ?_ | refine S.y (Y.gskipU rfl) ?_); refine opsS_nil ?_; refine N.tn ?_))
        refine D.e rfl rfl rfl ?_
        refine S.cg p (args := [ptrG p, .int .i64 o.fr, n2.val]) rfl (GPlan_spec n2 M2 p j o.fr _ hb hn2 hN2 (hT.mono hM2) hu2.kind) ?_
        rintro _ _ ⟨a1, c1, rs, a2, c2, ns, a3, c3, ms, a4, c4, is, a5, c5, es, M3, rfl, hl3, ⟨o1, o2, o3, o4, o5⟩, ⟨q1, q2, q3, q4, q5⟩, rfl⟩
        refine opsS_rgm x hl3 ?_
        refine Q.r ?_; (repeat (intro b1; refine Q.r ?_))
        repeat (first | refine D.endA ?_ | refine Q.dp rfl rfl rfl ?_ | refine Q.dy rfl rfl rfl ?_ | refine D.end_ ?_ | refine Q.endH ?_ | (refine D.e rfl rfl rfl ?_; (first | refine S.gskip1 rfl ?_ | refine S.gskip rfl ?_ | refine S.y (Y.gskipU rfl) ?_); refine opsS_nil ?_; refine N.tn ?_))
        refine D.e rfl rfl rfl ?_
        refine S.crg x (args := [.pointer (some ⟨x, 0, none⟩), .int .i64 o.fr, n1.val]) rfl (RgDo_spec n1 M3 x j o.fr _ hw (by omega) (by omega) (hn1.mono (hl2.trans hl3)) hN1 hoc1 hua1) ?_
        rintro _ _ ⟨f1, d1, rs2, f2, d2, ns2, f3, d3, ms2, f4, d4, is2, f5, d5, es2, M4, rfl, hl4, ⟨o1', o2', o3', o4', o5'⟩, ⟨q1', q2', q3', q4', q5'⟩, rfl⟩
        refine opsS_gm p hl4 ?_
        refine Q.r ?_; (repeat (intro b1; refine Q.r ?_))
        repeat (first | refine D.endA ?_ | refine Q.dp rfl rfl rfl ?_ | refine Q.dy rfl rfl rfl ?_ | refine D.end_ ?_ | refine Q.endH ?_ | (refine D.e rfl rfl rfl ?_; (first | refine S.gskip1 rfl ?_ | refine S.gskip rfl ?_ | refine S.y (Y.gskipU rfl) ?_); refine opsS_nil ?_; refine N.tn ?_))
        refine D.e rfl rfl rfl ?_
        refine Q.r ?_; (repeat (intro b1; refine Q.r ?_))
        repeat (first | refine D.endA ?_ | refine Q.dp rfl rfl rfl ?_ | refine Q.dy rfl rfl rfl ?_ | refine D.end_ ?_ | refine Q.endH ?_ | (refine D.e rfl rfl rfl ?_; (first | refine S.gskip1 rfl ?_ | refine S.gskip rfl ?_ | refine S.y (Y.gskipU rfl) ?_); refine opsS_nil ?_; refine N.tn ?_))
        refine D.e rfl rfl rfl ?_
        refine Q.r ?_; (repeat (intro b1; refine Q.r ?_))
        repeat (first | refine D.endA ?_ | refine Q.dp rfl rfl rfl ?_ | refine Q.dy rfl rfl rfl ?_ | refine D.end_ ?_ | refine Q.endH ?_ | (refine D.e rfl rfl rfl ?_; (first | refine S.gskip1 rfl ?_ | refine S.gskip rfl ?_ | refine S.y (Y.gskipU rfl) ?_); refine opsS_nil ?_; refine N.tn ?_))
        repeat (first | refine D.endA ?_ | refine Q.dp rfl rfl rfl ?_ | refine Q.dy rfl rfl rfl ?_ | refine D.end_ ?_ | refine Q.endH ?_ | (refine D.e rfl rfl rfl ?_; (first | refine S.gskip1 rfl ?_ | refine S.gskip rfl ?_ | refine S.y (Y.gskipU rfl) ?_); refine opsS_nil ?_; refine N.tn ?_))
        have hp5 : P5 M4 (planG j o.fr o.n.abs.few) a1 rs a2 ns a3 ms a4 is a5 es := ⟨o1.mono hl4, o2.mono hl4, o3.mono hl4, o4.mono hl4, o5.mono hl4, e2 ▸ q1, e2 ▸ q2, e2 ▸ q3, e2 ▸ q4, e2 ▸ q5⟩
        have hp5' : P5 M4 (planG j o.fr o.n.abs.few) f1 rs2 f2 ns2 f3 ms2 f4 is2 f5 es2 := ⟨o1', o2', o3', o4', o5', he1 ▸ q1', he1 ▸ q2', he1 ▸ q3', he1 ▸ q4', he1 ▸ q5'⟩
        refine N.tn ⟨⟨b9, b10, a1, c1, rs, a2, c2, ns, a3, c3, ms, a4, c4, is, a5, c5, es, f1, d1, rs2, f2, d2, ns2, f3, d3, ms2, f4, d4, is2, f5, d5, es2, M4⟩, ⟨rfl, rfl, rfl, rfl, rfl, rfl, rfl, trivial⟩, ?_, hp5, hp5', hl3.trans hl4⟩
        (try dsimp only); exact Go.SX.Ent.go
    · refine GQ.a ?_
      refine Q.al (fun b10 => ?_)
      refine Q.r ?_; (repeat (intro b1; refine Q.r ?_))
      repeat (first | refine D.endA ?_ | refine Q.dp rfl rfl rfl ?_ | refine Q.dy rfl rfl rfl ?_ | refine D.end_ ?_ | refine Q.endH ?_ | (refine D.e rfl rfl rfl ?_; (first | refine S.gskip1 rfl ?_ | refine S.gskip rfl ?_ | refine S.y (Y.gskipU rfl) ?_); refine opsS_nil ?_; refine N.tn ?_))
      refine D.two 4 10 [99999, 0, 0, 0] [4, 9, 12, 13] (by kernel_rfl) rfl rfl rfl rfl (by kernel_rfl) (by kernel_rfl) ?_ ?_
      · refine S.cg p (args := [ptrG p, .int .i64 o.fr, n2.val]) rfl (GPlan_spec n2 M2 p j o.fr _ hb hn2 hN2 (hT.mono hM2) hu2.kind) ?_
        rintro _ _ ⟨a1, c1, rs, a2, c2, ns, a3, c3, ms, a4, c4, is, a5, c5, es, M3, rfl, hl3, ⟨o1, o2, o3, o4, o5⟩, ⟨q1, q2, q3, q4, q5⟩, rfl⟩
        refine opsS_rgm x hl3 ?_
        refine Q.r ?_; (repeat (intro b1; refine Q.r ?_))
        repeat (first | refine D.endA ?_ | refine Q.dp rfl rfl rfl ?_ | refine Q.dy rfl rfl rfl ?_ | refine D.end_ ?_ | refine Q.endH ?_ | (refine D.e rfl rfl rfl ?_; (first | refine S.gskip1 rfl ?_ | refine S.gskip rfl ?_ | refine S.y (Y.gskipU rfl) ?_); refine opsS_nil ?_; refine N.tn ?_))
        refine D.two 9 10 [10, 12, 13] [9, 12, 13] (by kernel_rfl) rfl rfl rfl rfl (by kernel_rfl) (by kernel_rfl) ?_ ?_
        · refine S.crg x (args := [.pointer (some ⟨x, 0, none⟩), .int .i64 o.fr, n1.val]) rfl (RgDo_spec n1 M3 x j o.fr _ hw (by omega) (by omega) (hn1.mono (hl2.trans hl3)) hN1 hoc1 hua1) ?_
          rintro _ _ ⟨f1, d1, rs2, f2, d2, ns2, f3, d3, ms2, f4, d4, is2, f5, d5, es2, M4, rfl, hl4, ⟨o1', o2', o3', o4', o5'⟩, ⟨q1', q2', q3', q4', q5'⟩, rfl⟩
          refine opsS_gm p hl4 ?_
          refine Q.r ?_; (repeat (intro b1; refine Q.r ?_))
          repeat (first | refine D.endA ?_ | refine Q.dp rfl rfl rfl ?_ | refine Q.dy rfl rfl rfl ?_ | refine D.end_ ?_ | refine Q.endH ?_ | (refine D.e rfl rfl rfl ?_; (first | refine S.gskip1 rfl ?_ | refine S.gskip rfl ?_ | refine S.y (Y.gskipU rfl) ?_); refine opsS_nil ?_; refine N.tn ?_))
          refine D.e rfl rfl rfl ?_
          refine GQ.a ?_
          refine Q.al (fun b9 => ?_)
          refine Q.r ?_; (repeat (intro b1; refine Q.r ?_))
          repeat (first | refine D.endA ?_ | refine Q.dp rfl rfl rfl ?_ | refine Q.dy rfl rfl rfl ?_ | refine D.end_ ?_ | refine Q.endH ?_ | (refine D.e rfl rfl rfl ?_; (first | refine S.gskip1 rfl ?_ | refine S.gskip rfl ?_ | refine S.y (Y.gskipU rfl) ?_); refine opsS_nil ?_; refine N.tn ?_))
          refine D.e rfl rfl rfl ?_
          refine Q.r ?_; (repeat (intro b1; refine Q.r ?_))
          repeat (first | refine D.endA ?_ | refine Q.dp rfl rfl rfl ?_ | refine Q.dy rfl rfl rfl ?_ | refine D.end_ ?_ | refine Q.endH ?_ | (refine D.e rfl rfl rfl ?_; (first | refine S.gskip1 rfl ?_ | refine S.gskip rfl ?_ | refine S.y (Y.gskipU rfl) ?_); refine opsS_nil ?_; refine N.tn ?_))
          refine D.e rfl rfl rfl ?_
          refine Q.r ?_; (repeat (intro b1; refine Q.r ?_))
          repeat (first | refine D.endA ?_ | refine Q.dp rfl rfl rfl ?_ | refine Q.dy rfl rfl rfl ?_ | refine D.end_ ?_ | refine Q.endH ?_ | (refine D.e rfl rfl rfl ?_; (first | refine S.gskip1 rfl ?_ | refine S.gskip rfl ?_ | refine S.y (Y.gskipU rfl) ?_); refine opsS_nil ?_; refine N.tn ?_))
          repeat (first | refine D.endA ?_ | refine Q.dp rfl rfl rfl ?_ | refine Q.dy rfl rfl rfl ?_ | refine D.end_ ?_ | refine Q.endH ?_ | (refine D.e rfl rfl rfl ?_; (first | refine S.gskip1 rfl ?_ | refine S.gskip rfl ?_ | refine S.y (Y.gskipU rfl) ?_); refine opsS_nil ?_; refine N.tn ?_))
          have hp5 : P5 M4 (planG j o.fr o.n.abs.few) a1 rs a2 ns a3 ms a4 is a5 es := ⟨o1.mono hl4, o2.mono hl4, o3.mono hl4, o4.mono hl4, o5.mono hl4, e2 ▸ q1, e2 ▸ q2, e2 ▸ q3, e2 ▸ q4, e2 ▸ q5⟩
          have hp5' : P5 M4 (planG j o.fr o.n.abs.few) f1 rs2 f2 ns2 f3 ms2 f4 is2 f5 es2 := ⟨o1', o2', o3', o4', o5', he1 ▸ q1', he1 ▸ q2', he1 ▸ q3', he1 ▸ q4', he1 ▸ q5'⟩
          refine N.tn ⟨⟨b9, b10, a1, c1, rs, a2, c2, ns, a3, c3, ms, a4, c4, is, a5, c5, es, f1, d1, rs2, f2, d2, ns2, f3, d3, ms2, f4, d4, is2, f5, d5, es2, M4⟩, ⟨rfl, rfl, rfl, rfl, rfl, rfl, rfl, trivial⟩, ?_, hp5, hp5', hl3.trans hl4⟩
          (try dsimp only); exact Go.SX.Ent.go
        · refine GQ.a ?_
          refine Q.al (fun b9 => ?_)
          refine Q.r ?_; (repeat (intro b1; refine Q.r ?_))
          repeat (first | refine D.endA ?_ | refine Q.dp rfl rfl rfl ?_ | refine Q.dy rfl rfl rfl ?_ | refine D.end_ ?_ | refine Q.endH ?_ | (refine D.e rfl rfl rfl ?_; (first | refine S.gskip1 rfl ?_ | refine S.gskip rfl ?_ | refine S.y (Y.gskipU rfl) ?_); refine opsS_nil ?_; refine N.tn ?_))
          refine D.e rfl rfl rfl ?_
          refine S.crg x (args := [.pointer (some ⟨x, 0, none⟩), .int .i64 o.fr, n1.val]) rfl (RgDo_spec n1 M3 x j o.fr _ hw (by omega) (by omega) (hn1.mono (hl2.trans hl3)) hN1 hoc1 hua1) ?_
          rintro _ _ ⟨f1, d1, rs2, f2, d2, ns2, f3, d3, ms2, f4, d4, is2, f5, d5, es2, M4, rfl, hl4, ⟨o1', o2', o3', o4', o5'⟩, ⟨q1', q2', q3', q4', q5'⟩, rfl⟩
          refine opsS_gm p hl4 ?_
          refine Q.r ?_; (repeat (intro b1; refine Q.r ?_))
          repeat (first | refine D.endA ?_ | refine Q.dp rfl rfl rfl ?_ | refine Q.dy rfl rfl rfl ?_ | refine D.end_ ?_ | refine Q.endH ?_ | (refine D.e rfl rfl rfl ?_; (first | refine S.gskip1 rfl ?_ | refine S.gskip rfl ?_ | refine S.y (Y.gskipU rfl) ?_); refine opsS_nil ?_; refine N.tn ?_))
          refine D.e rfl rfl rfl ?_
          refine Q.r ?_; (repeat (intro b1; refine Q.r ?_))
          repeat (first | refine D.endA ?_ | refine Q.dp rfl rfl rfl ?_ | refine Q.dy rfl rfl rfl ?_ | refine D.end_ ?_ | refine Q.endH ?_ | (refine D.e rfl rfl rfl ?_; (first | refine S.gskip1 rfl ?_ | refine S.gskip rfl ?_ | refine S.y (Y.gskipU rfl) ?_); refine opsS_nil ?_; refine N.tn ?_))
          refine D.e rfl rfl rfl ?_
          refine Q.r ?_; (repeat (intro b1; refine Q.r ?_))
          repeat (first | refine D.endA ?_ | refine Q.dp rfl rfl rfl ?_ | refine Q.dy rfl rfl rfl ?_ | refine D.end_ ?_ | refine Q.endH ?_ | (refine D.e rfl rfl rfl ?_; (first | refine S.gskip1 rfl ?_ | refine S.gskip rfl ?_ | refine S.y (Y.gskipU rfl) ?_); refine opsS_nil ?_; refine N.tn ?_))
          repeat (first | refine D.endA ?_ | refine Q.dp rfl rfl rfl ?_ | refine Q.dy rfl rfl rfl ?_ | refine D.end_ ?_ | refine Q.endH ?_ | (refine D.e rfl rfl rfl ?_; (first | refine S.gskip1 rfl ?_ | refine S.gskip rfl ?_ | refine S.y (Y.gskipU rfl) ?_); refine opsS_nil ?_; refine N.tn ?_))
          have hp5 : P5 M4 (planG j o.fr o.n.abs.few) a1 rs a2 ns a3 ms a4 is a5 es := ⟨o1.mono hl4, o2.mono hl4, o3.mono hl4, o4.mono hl4, o5.mono hl4, e2 ▸ q1, e2 ▸ q2, e2 ▸ q3, e2 ▸ q4, e2 ▸ q5⟩
          have hp5' : P5 M4 (planG j o.fr o.n.abs.few) f1 rs2 f2 ns2 f3 ms2 f4 is2 f5 es2 := ⟨o1', o2', o3', o4', o5', he1 ▸ q1', he1 ▸ q2', he1 ▸ q3', he1 ▸ q4', he1 ▸ q5'⟩
          refine N.tn ⟨⟨b9, b10, a1, c1, rs, a2, c2, ns, a3, c3, ms, a4, c4, is, a5, c5, es, f1, d1, rs2, f2, d2, ns2, f3, d3, ms2, f4, d4, is2, f5, d5, es2, M4⟩, ⟨rfl, rfl, rfl, rfl, rfl, rfl, rfl, trivial⟩, ?_, hp5, hp5', hl3.trans hl4⟩
          (try dsimp only); exact Go.SX.Ent.go
      · refine GQ.a ?_
        refine Q.al (fun b9 => ?_)
        refine Q.r ?_; (repeat (intro b1; refine Q.r ?_))
        repeat (first | refine D.endA ?_ | refine Q.dp rfl rfl rfl ?_ | refine Q.dy rfl rfl rfl ?_ | refine D.end_ ?_ | refine Q.endH ?_ | (refine D.e rfl rfl rfl ?_; (first | refine S.gskip1 rfl ?_ | refine S.gskip rfl ?_ | refine S.y (Y.gskipU rfl) ?_); refine opsS_nil ?_; refine N.tn ?_))
        refine D.e rfl rfl rfl ?_
        refine S.cg p (args := [ptrG p, .int .i64 o.fr, n2.val]) rfl (GPlan_spec n2 M2 p j o.fr _ hb hn2 hN2 (hT.mono hM2) hu2.kind) ?_
        rintro _ _ ⟨a1, c1, rs, a2, c2, ns, a3, c3, ms, a4, c4, is, a5, c5, es, M3, rfl, hl3, ⟨o1, o2, o3, o4, o5⟩, ⟨q1, q2, q3, q4, q5⟩, rfl⟩
        refine opsS_rgm x hl3 ?_
        refine Q.r ?_; (repeat (intro b1; refine Q.r ?_))
        repeat (first | refine D.endA ?_ | refine Q.dp rfl rfl rfl ?_ | refine Q.dy rfl rfl rfl ?_ | refine D.end_ ?_ | refine Q.endH ?_ | (refine D.e rfl rfl rfl ?_; (first | refine S.gskip1 rfl ?_ | refine S.gskip rfl ?_ | refine S.y (Y.gskipU rfl) ?_); refine opsS_nil ?_; refine N.tn ?_))
        refine D.e rfl rfl rfl ?_
        refine S.crg x (args := [.pointer (some ⟨x, 0, none⟩), .int .i64 o.fr, n1.val]) rfl (RgDo_spec n1 M3 x j o.fr _ hw (by omega) (by omega) (hn1.mono (hl2.trans hl3)) hN1 hoc1 hua1) ?_
        rintro _ _ ⟨f1, d1, rs2, f2, d2, ns2, f3, d3, ms2, f4, d4, is2, f5, d5, es2, M4, rfl, hl4, ⟨o1', o2', o3', o4', o5'⟩, ⟨q1', q2', q3', q4', q5'⟩, rfl⟩
        refine opsS_gm p hl4 ?_
        refine Q.r ?_; (repeat (intro b1; refine Q.r ?_))
        repeat (first | refine D.endA ?_ | refine Q.dp rfl rfl rfl ?_ | refine Q.dy rfl rfl rfl ?_ | refine D.end_ ?_ | refine Q.endH ?_ | (refine D.e rfl rfl rfl ?_; (first | refine S.gskip1 rfl ?_ | refine S.gskip rfl ?_ | refine S.y (Y.gskipU rfl) ?_); refine opsS_nil ?_; refine N.tn ?_))
        refine D.e rfl rfl rfl ?_
        refine Q.r ?_; (repeat (intro b1; refine Q.r ?_))
        repeat (first | refine D.endA ?_ | refine Q.dp rfl rfl rfl ?_ | refine Q.dy rfl rfl rfl ?_ | refine D.end_ ?_ | refine Q.endH ?_ | (refine D.e rfl rfl rfl ?_; (first | refine S.gskip1 rfl ?_ | refine S.gskip rfl ?_ | refine S.y (Y.gskipU rfl) ?_); refine opsS_nil ?_; refine N.tn ?_))
        refine D.e rfl rfl rfl ?_
        refine Q.r ?_; (repeat (intro b1; refine Q.r ?_))
        repeat (first | refine D.endA ?_ | refine Q.dp rfl rfl rfl ?_ | refine Q.dy rfl rfl rfl ?_ | refine D.end_ ?_ | refine Q.endH ?_ | (refine D.e rfl rfl rfl ?_; (first | refine S.gskip1 rfl ?_ | refine S.gskip rfl ?_ | refine S.y (Y.gskipU rfl) ?_); refine opsS_nil ?_; refine N.tn ?_))
        repeat (first | refine D.endA ?_ | refine Q.dp rfl rfl rfl ?_ | refine Q.dy rfl rfl rfl ?_ | refine D.end_ ?_ | refine Q.endH ?_ | (refine D.e rfl rfl rfl ?_; (first | refine S.gskip1 rfl ?_ | refine S.gskip rfl ?_ | refine S.y (Y.gskipU rfl) ?_); refine opsS_nil ?_; refine N.tn ?_))
        have hp5 : P5 M4 (planG j o.fr o.n.abs.few) a1 rs a2 ns a3 ms a4 is a5 es := ⟨o1.mono hl4, o2.mono hl4, o3.mono hl4, o4.mono hl4, o5.mono hl4, e2 ▸ q1, e2 ▸ q2, e2 ▸ q3, e2 ▸ q4, e2 ▸ q5⟩
        have hp5' : P5 M4 (planG j o.fr o.n.abs.few) f1 rs2 f2 ns2 f3 ms2 f4 is2 f5 es2 := ⟨o1', o2', o3', o4', o5', he1 ▸ q1', he1 ▸ q2', he1 ▸ q3', he1 ▸ q4', he1 ▸ q5'⟩
        refine N.tn ⟨⟨b9, b10, a1, c1, rs, a2, c2, ns, a3, c3, ms, a4, c4, is, a5, c5, es, f1, d1, rs2, f2, d2, ns2, f3, d3, ms2, f4, d4, is2, f5, d5, es2, M4⟩, ⟨rfl, rfl, rfl, rfl, rfl, rfl, rfl, trivial⟩, ?_, hp5, hp5', hl3.trans hl4⟩
        (try dsimp only); exact Go.SX.Ent.go
  rintro ⟨b9, b10, a1, c1, rs, a2, c2, ns, a3, c3, ms, a4, c4, is, a5, c5, es, f1, d1, rs2, f2, d2, ns2, f3, d3, ms2, f4, d4, is2, f5, d5, es2, M3⟩ ⟨hp5, hp5', hl3⟩
  dsimp only at hp5 hp5' hl3 ⊢
  generalize hpl : planG j o.fr o.n.abs.few = pl at *
  have l1 := map_len hp5.er
  have l2 := map_len hp5.en
  have l3 := map_len hp5.em
  have l4 := map_len hp5.ei
  have l5 := map_len hp5.ee
  refine Q.r ?_; (repeat (intro b1; refine Q.r ?_))
  refine Q.dgo [true, true, true, true] [1, 3, 8] [] [0, 2, 1, 3, 4, 5, 6, 7, 8, 9, 10] ?_
  refine Q.rd ?_; (repeat (intro b1; refine Q.rd ?_))
  refine D.e rfl rfl rfl ?_
  refine S.cmG (args := [lP5 a1 c1 rs.length a2 c2 ns.length a3 c3 ms.length a4 c4 is.length a5 c5 es.length]) rfl (Lplan_spec a1 c1 rs a2 c2 ns a3 c3 ms a4 c4 is a5 c5 es M3 _ hp5.r hp5.n hp5.m hp5.i hp5.e (by omega) (by omega) (by omega) (by omega) (by omega)) ?_
  rintro _ _ ⟨g1, h1, g2, h2, g3, h3, g4, h4, g5, h5, rfl, rfl⟩
  refine opsS_abs g1 (fun N1 k1 z1 => ?_)
  refine opsS_abs g2 (fun N2 k2 z2 => ?_)
  refine opsS_abs g3 (fun N3 k3 z3 => ?_)
  refine opsS_abs g4 (fun N4 k4 z4 => ?_)
  refine opsS_abs g5 (fun N5 k5 z5 => ?_)
  have k45 := k5
  have k35 := k4.trans k45
  have k25 := k3.trans k35
  have k15 := k2.trans k25
  have k05 := k1.trans k15
  refine opsS_gm p k05 ?_
  refine opsS_rgm x k05 ?_
  have hq5 : P5 N5 pl g1 rs g2 ns g3 ms g4 is g5 es := ⟨⟨z1.mono k15, fun n hn => (hp5.r.2 n hn).mono k05⟩, ⟨z2.mono k25, fun n hn => (hp5.n.2 n hn).mono k05⟩, ⟨z3.mono k35, fun n hn => (hp5.m.2 n hn).mono k05⟩, ⟨z4.mono k45, fun n hn => (hp5.i.2 n hn).mono k05⟩, ⟨z5, fun n hn => (hp5.e.2 n hn).mono k05⟩, hp5.er, hp5.en, hp5.em, hp5.ei, hp5.ee⟩
  have hr5 := hp5.mono k05
  have hl25 := hl3.trans k05
  refine Q.r ?_; (repeat (intro b1; refine Q.r ?_))
  refine Q.rd ?_; (repeat (intro b1; refine Q.rd ?_))
  refine D.e rfl rfl rfl ?_
  refine S.cmG (args := [lP5 g1 h1 rs.length g2 h2 ns.length g3 h3 ms.length g4 h4 is.length g5 h5 es.length, lP5 f1 d1 rs2.length f2 d2 ns2.length f3 d3 ms2.length f4 d4 is2.length f5 d5 es2.length]) rfl (SamePlan15_spec g1 h1 rs g2 h2 ns g3 h3 ms g4 h4 is g5 h5 es f1 d1 rs2 f2 d2 ns2 f3 d3 ms2 f4 d4 is2 f5 d5 es2 N5 pl _ hq5 (hp5'.mono k05) hpn ⟨by omega, by omega, by omega, by omega, by omega⟩) ?_
  rintro _ _ ⟨rfl, rfl⟩
  refine Q.r ?_; (repeat (intro b1; refine Q.r ?_))
  refine Q.rd ?_; (repeat (intro b1; refine Q.rd ?_))
  refine D.e rfl rfl rfl ?_
  refine S.guard rfl ?_
  refine S.cr (args := [n2.val, n1.val]) rfl (Same12_spec n2 n1 _ (hn2.mono hl25).rd (hn1.mono (hl2.trans hl25)).rd hN2 hN1 he21) ?_
  rintro _ _ ⟨rfl, rfl⟩
  refine Q.r ?_; (repeat (intro b1; refine Q.r ?_))
  refine Q.rd ?_; (repeat (intro b1; refine Q.rd ?_))
  have hu1 : ∀ n ∈ rs, NumA n.abs ∧ OkN n := fun n hn => ⟨(hpn.r _ (hp5.er ▸ List.mem_map_of_mem hn)).1, OkN.of (hpn.r _ (hp5.er ▸ List.mem_map_of_mem hn)).2⟩
  have hu2' : ∀ n ∈ ns, NumA n.abs ∧ OkN n := fun n hn => ⟨(hpn.n _ (hp5.en ▸ List.mem_map_of_mem hn)).1, OkN.of (hpn.n _ (hp5.en ▸ List.mem_map_of_mem hn)).2⟩
  have hu4 : ∀ n ∈ is, NumA n.abs ∧ OkN n := fun n hn => ⟨(hpn.i _ (hp5.ei ▸ List.mem_map_of_mem hn)).1, OkN.of (hpn.i _ (hp5.ei ▸ List.mem_map_of_mem hn)).2⟩
  have hTN := hT2.mono hl25
  by_cases hcond : o.w = false ∧ 0 < rs.length
  · have hst : stepG j o.d o.fr o.n.abs.few o.w = appL j pl.inst := by
      unfold stepG stepL
      rw [if_neg h8, if_neg h9, if_neg h10, hpl, if_pos ⟨hcond.1, by omega⟩]
    rw [hst]
    have hrl := hcond.2
    have hww := hcond.1
    refine Q.r ?_; (repeat (intro b1; refine Q.r ?_))
    refine S.c3 (A := jdgH N5 p j) (B := rgH N5 x j) (C := roM N5) rfl (Lapply_spec a4 c4 is p x j N5 _ hr5.i hu4 hw (by omega) (by omega) hTN) ?_
    rintro _ _ ⟨M6, rfl, hl6, rfl⟩
    rw [hr5.ei]
    refine Q.r ?_; (repeat (intro b1; refine Q.r ?_))
    refine N.r1 (RV.tmp rfl RV.nil) ?_ ⟨M6, rfl, hM2.trans (hl25.trans hl6), rfl⟩
    exact Go.SX.Ent.go
  · have hst : stepG j o.d o.fr o.n.abs.few o.w = appL (appL j pl.rec_) pl.notes := by
      unfold stepG stepL
      rw [if_neg h8, if_neg h9, if_neg h10, hpl, if_neg (fun h => hcond ⟨h.1, by omega⟩)]
      exact List.foldl_append ..
    rw [hst]
    have hok1 := appL_ok (j := j) (l := rs.map NV.abs) hw (fun r hr => by obtain ⟨w, hw, rfl⟩ := List.mem_map.1 hr; exact (hu1 w hw).1)
    rw [hr5.er] at hok1
    obtain ⟨hj1, hj2, hj3, _⟩ := hok1
    by_cases hww : o.w = false
    · have hrl : ¬ 0 < rs.length := fun h => hcond ⟨hww, h⟩
      refine Q.r ?_; (repeat (intro b1; refine Q.r ?_))
      refine S.c3 (A := jdgH N5 p j) (B := rgH N5 x j) (C := roM N5) rfl (Lapply_spec a1 c1 rs p x j N5 _ hr5.r hu1 hw (by omega) (by omega) hTN) ?_
      rintro _ _ ⟨M6, rfl, hl6, rfl⟩
      rw [hr5.er]
      refine Q.r ?_; (repeat (intro b1; refine Q.r ?_))
      first | refine S.c3 (A := jdgH M6 p (appL j pl.rec_)) (B := rgH M6 x (appL j pl.rec_)) (C := roM M6) rfl (Lapply_spec a2 c2 ns p x (appL j pl.rec_) M6 _ (hr5.n.mono hl6) hu2' hj1 (by omega) (by omega) (hTN.mono hl6)) ?_ | (refine S.guard rfl ?_; refine S.c3 (A := jdgH M6 p (appL j pl.rec_)) (B := rgH M6 x (appL j pl.rec_)) (C := roM M6) rfl (Lapply_spec a2 c2 ns p x (appL j pl.rec_) M6 _ (hr5.n.mono hl6) hu2' hj1 (by omega) (by omega) (hTN.mono hl6)) ?_)
      rintro _ _ ⟨M7, rfl, hl7, rfl⟩
      rw [hr5.en]
      refine Q.r ?_; (repeat (intro b1; refine Q.r ?_))
      refine N.r1 (RV.tmp rfl RV.nil) ?_ ⟨M7, rfl, hM2.trans (hl25.trans (hl6.trans hl7)), rfl⟩
      exact Go.SX.Ent.go
    · have hww : o.w = true := by simpa using hww
      refine Q.r ?_; (repeat (intro b1; refine Q.r ?_))
      refine S.c3 (A := jdgH N5 p j) (B := rgH N5 x j) (C := roM N5) rfl (Lapply_spec a1 c1 rs p x j N5 _ hr5.r hu1 hw (by omega) (by omega) hTN) ?_
      rintro _ _ ⟨M6, rfl, hl6, rfl⟩
      rw [hr5.er]
      refine Q.r ?_; (repeat (intro b1; refine Q.r ?_))
      first | refine S.c3 (A := jdgH M6 p (appL j pl.rec_)) (B := rgH M6 x (appL j pl.rec_)) (C := roM M6) rfl (Lapply_spec a2 c2 ns p x (appL j pl.rec_) M6 _ (hr5.n.mono hl6) hu2' hj1 (by omega) (by omega) (hTN.mono hl6)) ?_ | (refine S.guard rfl ?_; refine S.c3 (A := jdgH M6 p (appL j pl.rec_)) (B := rgH M6 x (appL j pl.rec_)) (C := roM M6) rfl (Lapply_spec a2 c2 ns p x (appL j pl.rec_) M6 _ (hr5.n.mono hl6) hu2' hj1 (by omega) (by omega) (hTN.mono hl6)) ?_)
      rintro _ _ ⟨M7, rfl, hl7, rfl⟩
      rw [hr5.en]
      refine Q.r ?_; (repeat (intro b1; refine Q.r ?_))
      refine N.r1 (RV.tmp rfl RV.nil) ?_ ⟨M7, rfl, hM2.trans (hl25.trans (hl6.trans hl7)), rfl⟩
      exact Go.SX.Ent.go
end Go.Proofs.YtiampehfpgcogaaGreatDoor
namespace Go.Proofs.YtiampehfpgcogaaGreatDoor
open Go Go.SX
theorem app_gone {j : JG} {x : Int} : (appG j (goneN x)).tr.length ≤ j.tr.length ∧ (appG j (goneN x)).done = j.done := by
  by_cases hE : appGE j (goneN x) = 0
  · rw [appGe hE (.inr rfl)]
    exact ⟨delL_len _ _, rfl⟩
  · rw [appGno hE]
    exact ⟨Nat.le_refl _, rfl⟩
theorem appL_gone : ∀ (l : List Int) (j : JG), (appL j (l.map goneN)).tr.length ≤ j.tr.length ∧ (appL j (l.map goneN)).done = j.done
  | [], j => ⟨Nat.le_refl _, rfl⟩
  | x :: l, j => by
    obtain ⟨h1, h2⟩ := appL_gone l (appG j (goneN x))
    obtain ⟨h3, h4⟩ := app_gone (j := j) (x := x)
    exact ⟨Nat.le_trans h1 h3, h2.trans h4⟩
theorem epoch_num {j : JG} (h : WN j) : NumA (epochN (j.epoch + 1)) := by
  have e0 := h.g.b.e0
  have e1 := h.g.b.e1
  have z : (0 : Int) ≤ 18446744073709551615 := by decide
  exact NumA.of (show (0 : Int) ≤ 16 by decide) (show (16 : Int) ≤ 255 by decide) (Int.le_refl _) z (Int.le_refl _) z (Int.le_refl _) z (Int.le_refl _) z (show (0 : Int) ≤ 9223372036854775807 by decide) (show 0 ≤ j.epoch + 1 by omega) (show j.epoch + 1 ≤ _ by omega) rfl rfl rfl rfl rfl
theorem step_ok {j : JG} (h : WN j) (s1 : 1 ≤ j.shards) (s2 : j.shards ≤ 4) {n : NA} (u : NumA n) (d fr : Int) (w : Bool) :
    WN (stepG j d fr n w) ∧ (stepG j d fr n w).tr.length ≤ j.tr.length + 2 ∧ (stepG j d fr n w).done.length ≤ j.done.length + 2 ∧ (stepG j d fr n w).shards = j.shards ∧ (stepG j d fr n w).dim = j.dim := by
  have hp := plan_ok h s1 s2 u fr
  have ho := plan_ones j fr n
  unfold stepG stepL
  split
  · obtain ⟨a, b, c, e, f⟩ := appL_ok (l := [n]) h (fun r hr => by rw [List.mem_singleton.1 hr]; exact u)
    rw [List.length_singleton] at b c
    exact ⟨a, by omega, by omega, e, f⟩
  split
  · obtain ⟨a, _, _, e, f⟩ := appL_ok (l := (quitG j).notes) h (fun r hr => ((quit_ok h).1 r hr).1)
    have hm : (quitG j).notes = ((quitL j (sortL (j.tr.map (·.1)))).map (·.txn)).map goneN := by rw [List.map_map]; rfl
    obtain ⟨g1, g2⟩ := appL_gone ((quitL j (sortL (j.tr.map (·.1)))).map (·.txn)) j
    rw [← hm] at g1 g2
    exact ⟨a, Nat.le_trans g1 (Nat.le_add_right _ _), by rw [g2]; exact Nat.le_add_right _ _, e, f⟩
  split
  · obtain ⟨a, b, c, e, f⟩ := appL_ok (l := [epochN (j.epoch + 1)]) h (fun r hr => by rw [List.mem_singleton.1 hr]; exact epoch_num h)
    rw [List.length_singleton] at b c
    exact ⟨a, by omega, by omega, e, f⟩
  split
  · obtain ⟨a, b, c, e, f⟩ := appL_ok (l := (planG j fr n).inst) h (fun r hr => (hp.i r hr).1)
    exact ⟨a, by omega, by omega, e, f⟩
  · obtain ⟨a, b, c, e, f⟩ := appL_ok (l := (planG j fr n).rec_ ++ (planG j fr n).notes) h (fun r hr => by
      rcases List.mem_append.1 hr with hr | hr
      · exact (hp.r r hr).1
      · exact (hp.n r hr).1)
    rw [List.length_append] at b c
    exact ⟨a, by omega, by omega, e, f⟩
structure LS (j : JG) (k : Nat) : Prop where
  w : WN j
  s : j.shards = 3
  dm : j.dim = 2
  t : j.tr.length ≤ 2 * min k 40
  d : j.done.length ≤ 2 * min k 40
theorem LS.zero : LS (JG0 3 2) 0 := ⟨⟨WG.zero (by decide) (by decide), fun _ h => (by cases h), fun _ h => (by cases h)⟩, rfl, rfl, Nat.zero_le _, Nat.zero_le _⟩
theorem LS.step {j : JG} {k : Nat} (h : LS j k) (hk : k < 40) {n : NA} (u : NumA n) (d fr : Int) (w : Bool) : LS (stepG j d fr n w) (k + 1) := by
  have h1 := h.s
  obtain ⟨a, b, c, e, f⟩ := step_ok h.w (by omega) (by omega) u d fr w
  have ht := h.t
  have hd := h.d
  exact ⟨a, by omega, by rw [f]; exact h.dm, by omega, by omega⟩
theorem LS.skip {j : JG} {k : Nat} (h : LS j k) : LS j (k + 1) := by
  have ht := h.t
  have hd := h.d
  exact ⟨h.w, h.s, h.dm, by omega, by omega⟩
theorem LS.b {j : JG} {k : Nat} (h : LS j k) : j.tr.length ≤ 80 ∧ j.done.length ≤ 80 := by
  have ht := h.t
  have hd := h.d
  omega
def trsL (j : JG) : List TR := (sortL (j.tr.map (·.1))).filterMap fun x => lkL j.tr x
theorem trsL_perm {j : JG} (hk : keysOK j.tr) : (trsL j).Perm (j.tr.map (·.2)) := by
  unfold trsL
  refine ((sortL_perm _).filterMap _).trans ?_
  have : ∀ l : List (Int × TR), (∀ u ∈ l, u ∈ j.tr) → (l.map (·.1)).filterMap (fun x => lkL j.tr x) = l.map (·.2) := by
    intro l
    induction l with
    | nil => exact fun _ => rfl
    | cons u l ih =>
      intro hl
      rw [List.map_cons, List.filterMap_cons, (lkL_iff hk).2 (hl u List.mem_cons_self), List.map_cons, ← ih fun v hv => hl v (List.mem_cons_of_mem _ hv)]
  rw [this j.tr fun _ h => h]
theorem trialsL (j : JG) : trialsG j = (trsL j).map bareT := by
  unfold trialsG trsL
  rw [List.map_filterMap]
theorem trials_len {j : JG} (hk : keysOK j.tr) : (trialsG j).length = j.tr.length := by
  rw [trialsL, List.length_map, (trsL_perm hk).length_eq, List.length_map]
def open0 (t : TR) : Bool := decide (t.stamp = 0)
end Go.Proofs.YtiampehfpgcogaaGreatDoor
namespace Go.Proofs.YtiampehfpgcogaaGreatDoor
open Go Go.SX
attribute [local irreducible] swp opsS thenS blockS retS CallsS St Ent YieldS anyS drawS
theorem rg_new {p : Nat} (M : Nat → Option Obj) {L : List HP} : Ent (pt p (cl [.int .i64 3, .int .i64 2, .int .u64 0, .int .u64 0, .int .u64 0, .slice none 0 0, .slice none 0 0] 33) :: L) (rgH M p (JG0 3 2) :: L) :=
  rg_shut (p := p) (j := JG0 3 2) (ta := none) (tc := 0) (ts := []) (da := none) (dc := 0) (ds := []) ⟨by decide, by decide, List.Perm.refl _, List.Pairwise.nil, fun _ h => (by cases h), fun _ h => (by cases h), SlM.nil0, Nat.le_refl _, List.Perm.refl _, List.Pairwise.nil, SlM.nil0⟩
end Go.Proofs.YtiampehfpgcogaaGreatDoor
namespace Go.Proofs.YtiampehfpgcogaaGreatDoor
open Go Go.SX
def UB (j : JG) : Prop := ∀ u ∈ j.tr, ∀ v ∈ j.tr, u.2.stamp = 0 → v.2.stamp = 0 → u.2.batch = v.2.batch → u.1 = v.1
theorem UB.sub {j j' : JG} (h : UB j) (hs : ∀ u ∈ j'.tr, u ∈ j.tr) : UB j' := fun u hu v hv => h u (hs u hu) v (hs v hv)
theorem putL_cases {α : Type} {m : List (Int × α)} (hk : keysOK m) {k : Int} {a : α} {x : Int × α} (h : x ∈ putL m k a) : (x ∈ m ∧ x.1 ≠ k) ∨ x = (k, a) := by
  have h1 := (lkL_iff (putL_ok hk k a)).2 h
  rw [lkL_put hk] at h1
  by_cases hx : x.1 = k
  · rw [if_pos hx] at h1
    right
    have := Option.some.inj h1
    rw [this, ← hx]
  · rw [if_neg hx] at h1
    exact .inl ⟨(lkL_iff hk).1 h1, hx⟩
theorem UB.app {j : JG} (h : UB j) (hw : WN j) {n : NA} (u : NumA n) (hk : n.kind ≠ 19) : UB (appG j n) := by
  by_cases hE : ¬ appGE j n = 0
  · rw [appGno hE]; exact h
  have hE : appGE j n = 0 := Classical.not_not.1 hE
  have hr := right_of_app hE
  by_cases h16 : n.kind = 16
  · rw [appG16 hE h16]; exact h.sub fun u hu => (List.mem_filter.1 hu).1
  by_cases h17 : n.kind = 17
  · rw [appG17 hE h17]
    have hne : n.stamp ≠ 0 := by
      rw [appGE17 hr h17] at hE
      unfold comE at hE
      intro e
      rw [if_pos e] at hE; cases hE
    intro v hv w hw' hs1 hs2 hb
    rcases putL_cases hw.g.kt hv with ⟨hv, _⟩ | rfl
    · rcases putL_cases hw.g.kt hw' with ⟨hw', _⟩ | rfl
      · exact h v hv w hw' hs1 hs2 hb
      · exact absurd hs2 hne
    · exact absurd hs1 hne
  by_cases hww : n.kind = 20 ∨ n.kind = 21
  · have hE2 := hE
    rw [appGEw hr hww] at hE2
    cases hz : lkL j.tr n.txn with
    | none => rw [hz] at hE2; cases hE2
    | some t =>
      rw [appGw hE hww hz]
      have hm := (lkL_iff hw.g.kt).1 hz
      have e1 : (saidT t n).stamp = t.stamp := by unfold saidT; split <;> rfl
      have e2 : (saidT t n).batch = t.batch := by unfold saidT; split <;> rfl
      intro v hv w hw' hs1 hs2 hb
      rcases putL_cases hw.g.kt hv with ⟨hv, hvn⟩ | rfl
      · rcases putL_cases hw.g.kt hw' with ⟨hw', _⟩ | rfl
        · exact h v hv w hw' hs1 hs2 hb
        · exact h v hv (n.txn, t) hm hs1 (e1 ▸ hs2) (hb.trans e2)
      · rcases putL_cases hw.g.kt hw' with ⟨hw', _⟩ | rfl
        · exact h (n.txn, t) hm w hw' (e1 ▸ hs1) hs2 (e2.symm.trans hb)
        · rfl
  · by_cases he : n.kind = 18 ∨ n.kind = 22
    · rw [appGe hE he]; exact h.sub fun u hu => (List.mem_filter.1 hu).1
    · unfold appGE at hE
      rw [if_neg (by rw [hr]; decide), if_neg h16, if_neg hk, if_neg h17, if_neg (by omega)] at hE
      cases hE
theorem UB.appL {l : List NA} : ∀ {j : JG}, UB j → WN j → (∀ r ∈ l, NumA r ∧ r.kind ≠ 19) → UB (appL j l) := by
  induction l with
  | nil => exact fun h _ _ => h
  | cons r l ih => exact fun h hw hl => ih (h.app hw (hl r List.mem_cons_self).1 (hl r List.mem_cons_self).2) (hw.app (hl r List.mem_cons_self).1) fun x hx => hl x (List.mem_cons_of_mem _ hx)
theorem UB.begin {j : JG} (h : UB j) (hw : WN j) {n : NA} (hk : n.kind = 19) (hb : ∀ u ∈ j.tr, u.2.batch ≠ n.batch) : UB (appG j n) := by
  by_cases hE : ¬ appGE j n = 0
  · rw [appGno hE]; exact h
  have hE : appGE j n = 0 := Classical.not_not.1 hE
  rw [appG19 hE hk]
  intro v hv w hw' hs1 hs2 hbb
  rcases putL_cases hw.g.kt hv with ⟨hv, _⟩ | rfl
  · rcases putL_cases hw.g.kt hw' with ⟨hw', _⟩ | rfl
    · exact h v hv w hw' hs1 hs2 hbb
    · exact absurd hbb (hb v hv)
  · rcases putL_cases hw.g.kt hw' with ⟨hw', _⟩ | rfl
    · exact absurd hbb.symm (hb w hw')
    · rfl
theorem plan_kinds {j : JG} (fr : Int) (n : NA) : (∀ r ∈ (planG j fr n).rec_ ++ (planG j fr n).inst, r.kind ≠ 19) ∧ ((∀ r ∈ (planG j fr n).notes, r.kind ≠ 19) ∨ ((planG j fr n).rec_ = [] ∧ ∃ r, (planG j fr n).notes = [r] ∧ r.kind = 19 ∧ ∀ u ∈ j.tr, u.2.batch ≠ r.batch)) := by
  have n0 : (∀ r ∈ ([] : List NA) ++ [], r.kind ≠ 19) := fun _ h => by cases h
  have m0 : (∀ r ∈ ([] : List NA), r.kind ≠ 19) := fun _ h => by cases h
  have m1 : ∀ x : NA, x.kind ≠ 19 → ∀ r ∈ [x], r.kind ≠ 19 := fun x hx r hr => by rw [List.mem_singleton.1 hr]; exact hx
  unfold planG
  split
  · exact ⟨n0, .inl m0⟩
  split
  · unfold askG
    split
    · exact ⟨n0, .inl m0⟩
    · split
      · exact ⟨n0, .inl m0⟩
      rename_i hany
      split
      · exact ⟨n0, .inl m0⟩
      · refine ⟨n0, .inr ⟨rfl, _, rfl, rfl, fun u hu he => hany ?_⟩⟩
        rw [List.any_eq_true]
        exact ⟨u, hu, by simpa using he⟩
  split
  · unfold voteG
    split
    · exact ⟨n0, .inl m0⟩
    · split
      · exact ⟨n0, .inl m0⟩
      split
      · exact ⟨n0, .inl (m1 _ (by show (22 : Int) ≠ 19; decide))⟩
      split
      · exact ⟨n0, .inl m0⟩
      split
      · exact ⟨n0, .inl (m1 _ (by show (20 : Int) ≠ 19; decide))⟩
      · refine ⟨fun r hr => ?_, .inl m0⟩
        rcases List.mem_append.1 hr with hr | hr
        · rw [List.mem_singleton.1 hr]; show (17 : Int) ≠ 19; decide
        · rw [List.mem_singleton.1 hr]; show (22 : Int) ≠ 19; decide
  split
  · unfold ackG
    split
    · exact ⟨n0, .inl m0⟩
    · split
      · exact ⟨n0, .inl m0⟩
      split
      · exact ⟨n0, .inl (m1 _ (by show (21 : Int) ≠ 19; decide))⟩
      · refine ⟨fun r hr => ?_, .inl m0⟩
        rcases List.mem_append.1 hr with hr | hr
        · rw [List.mem_singleton.1 hr]; show (18 : Int) ≠ 19; decide
        · cases hr
  split
  · unfold probeG
    split
    · exact ⟨n0, .inl m0⟩
    · split <;> exact ⟨n0, .inl m0⟩
  · exact ⟨n0, .inl m0⟩
theorem UB.step {j : JG} (h : UB j) (hw : WN j) (s1 : 1 ≤ j.shards) (s2 : j.shards ≤ 4) {n : NA} (u : NumA n) (d fr : Int) (w : Bool) (hd : d % 11 ≠ 8) : UB (stepG j d fr n w) := by
  have hp := plan_ok hw s1 s2 u fr
  obtain ⟨k1, k2⟩ := plan_kinds (j := j) fr n
  unfold stepG stepL
  rw [if_neg hd]
  split
  · refine h.appL hw fun r hr => ⟨((quit_ok hw).1 r hr).1, ?_⟩
    obtain ⟨t, _, rfl⟩ := List.mem_map.1 hr
    show (22 : Int) ≠ 19; decide
  split
  · refine h.appL hw fun r hr => ?_
    rw [List.mem_singleton.1 hr]
    exact ⟨epoch_num hw, by show (16 : Int) ≠ 19; decide⟩
  split
  · exact h.appL hw fun r hr => ⟨(hp.i r hr).1, k1 r (List.mem_append_right _ hr)⟩
  · rcases k2 with k2 | ⟨e1, r, e2, hk, hb⟩
    · refine h.appL hw fun r hr => ?_
      rcases List.mem_append.1 hr with hr | hr
      · exact ⟨(hp.r r hr).1, k1 r (List.mem_append_left _ hr)⟩
      · exact ⟨(hp.n r hr).1, k2 r hr⟩
    · rw [e1, e2]
      exact h.begin hw hk hb
def openB (l : List TR) : List (Int × Int) := (l.filter open0).map fun t => (t.batch, 1)
theorem openB_snoc (l : List TR) (t : TR) : openB (l ++ [t]) = openB l ++ if t.stamp = 0 then [(t.batch, 1)] else [] := by
  unfold openB
  rw [List.filter_append, List.map_append, List.filter_cons, List.filter_nil]
  by_cases h : t.stamp = 0
  · rw [if_pos (by simpa [open0] using h), if_pos h]; rfl
  · rw [if_neg (by simpa [open0] using h), if_neg h]; rfl
theorem openB_bare (l : List TR) : openB (l.map bareT) = openB l := by
  unfold openB; rw [List.filter_map, List.map_map]; rfl
theorem openB_keys {j : JG} (h : UB j) (hw : WN j) : keysOK (openB (trialsG j)) := by
  rw [trialsL, openB_bare]
  unfold openB keysOK
  rw [List.map_map]
  have hp := (trsL_perm hw.g.kt).filter open0
  have hp2 := hp.map (fun t : TR => t.batch)
  refine hp2.nodup_iff.2 ?_
  rw [List.filter_map, List.map_map]
  have hnd : (j.tr.map (·.1)).Nodup := hw.g.kt
  have key : ∀ l : List (Int × TR), (∀ u ∈ l, u ∈ j.tr) → (l.map (·.1)).Nodup → ((l.filter (open0 ∘ fun u => u.2)).map ((fun t : TR => t.batch) ∘ fun u : Int × TR => u.2)).Nodup := by
    intro l
    induction l with
    | nil => exact fun _ _ => List.nodup_nil
    | cons a l ih =>
      intro hl hn
      rw [List.map_cons, List.nodup_cons] at hn
      have hi := ih (fun u hu => hl u (List.mem_cons_of_mem _ hu)) hn.2
      rw [List.filter_cons]
      split
      · rename_i ho
        rw [List.map_cons, List.nodup_cons]
        refine ⟨fun hm => ?_, hi⟩
        obtain ⟨v, hv, e⟩ := List.mem_map.1 hm
        obtain ⟨hv, hvo⟩ := List.mem_filter.1 hv
        have := h a (hl a List.mem_cons_self) v (hl v (List.mem_cons_of_mem _ hv)) (by simpa [open0] using ho) (by simpa [open0] using hvo) e.symm
        exact hn.1 (this ▸ List.mem_map_of_mem hv)
      · exact hi
  exact key j.tr (fun _ h => h) hnd
theorem openB_lk {j : JG} (hw : WN j) {b : Int} (h : (lkL (openB (trialsG j)) b).isSome = true) : j.tr.any (fun u => decide (u.2.batch = b)) = true := by
  obtain ⟨z, hz⟩ := Option.isSome_iff_exists.1 h
  have hm := lk_memL hz
  rw [trialsL, openB_bare] at hm
  obtain ⟨t, ht, e⟩ := List.mem_map.1 hm
  obtain ⟨w, hw', rfl⟩ := List.mem_map.1 ((trsL_perm hw.g.kt).mem_iff.1 (List.mem_filter.1 ht).1)
  rw [List.any_eq_true]
  exact ⟨w, hw', by simpa using (Prod.mk.inj e).1⟩
theorem openB_one {l : List TR} {b z : Int} (h : lkL (openB l) b = some z) : z = 1 := by
  obtain ⟨t, _, e⟩ := List.mem_map.1 (lk_memL h)
  exact (Prod.mk.inj e).2.symm
theorem UB.zero : UB (JG0 3 2) := fun _ h => by cases h
end Go.Proofs.YtiampehfpgcogaaGreatDoor
namespace Go.Proofs.YtiampehfpgcogaaGreatDoor
open Go Go.SX
attribute [local irreducible] swp opsS thenS blockS retS CallsS St Ent YieldS anyS drawS
set_option maxHeartbeats 8000000 in
theorem JudgeAsks_spec (a : Option Addr) (c : Nat) (xs : List GO) (f0 bt : Int) (hf0 : 0 ≤ f0 ∧ f0 ≤ 255) (hbt : 0 ≤ bt ∧ bt ≤ 18446744073709551615) (ao : Option Addr) (co : Nat) (ops : List OV) (M : Nat → Option Obj) (h : SlM M a xs.length 19 (xs.flatMap GO.cells)) (hx : ∀ o ∈ xs, GOK M o) (hn : xs.length ≤ 9223372036854775807)
    (ho : SlM M ao ops.length 2 (ops.flatMap OV.cells) ∧ okR M ops) (hoc : ∀ o ∈ ops, o.vec.length ≤ o.c) (hol : ops.length ≤ 9223372036854775807) (hT : TabM M) :
    CallsS Tryz.prog 4 [.slice a xs.length c, .int .u8 f0, .int .u64 bt, .slice ao ops.length co] [roM M] (fun r _ => r = .bool true) := by
  refine CallsS.of_body Tryz.func4 rfl rfl rfl ?_
  refine Q.r ?_; (repeat (intro b1; refine Q.r ?_))
  refine S.cmG rfl (Gawake_spec M _ hT) ?_
  rintro _ _ ⟨M1, rfl, hl1, rfl⟩
  refine Q.r ?_; (repeat (intro b1; refine Q.r ?_))
  refine S.cr rfl (GNew_spec M1 3 2 _ (by decide) (by decide) (by decide) (by decide)) ?_
  rintro _ _ ⟨p, rfl, rfl⟩
  refine Q.r ?_; (repeat (intro b1; refine Q.r ?_))
  revert b1
  intro x
  refine swp_cutB (σ := JG × (Nat → Option Obj)) (fun s => [(1, .int .u8 f0), (2, .int .u64 bt), (3, .slice ao ops.length co), (9, ptrG p)])
    (fun s => jdgH s.2 p s.1 :: roM s.2 :: []) (fun s => LS s.1 xs.length ∧ UB s.1 ∧ leM M s.2) ?_ ?_
  · refine swp_loop (σ := Nat × JG × (Nat → Option Obj)) (fun s => [(1, .int .u8 f0), (2, .int .u64 bt), (3, .slice ao ops.length co), (9, ptrG p), (11, .pointer (some ⟨x, 0, none⟩)), (29, .slice a xs.length c), (30, .int .i64 xs.length), (31, .int .i64 s.1)])
      (fun s => jdgH s.2.2 p s.2.1 :: rgH s.2.2 x s.2.1 :: roM s.2.2 :: []) (fun s => s.1 ≤ xs.length ∧ LS s.2.1 s.1 ∧ UB s.2.1 ∧ leM M s.2.2) (fun s => xs.length - s.1) (0, JG0 3 2, M1) ⟨rfl, rfl, rfl, rfl, rfl, rfl, rfl, rfl, trivial⟩ (Ent.trans (rg_new M1) (by exact Go.SX.Ent.go)) ⟨Nat.zero_le _, LS.zero, UB.zero, hl1⟩ ?_
    rintro ⟨k, j, M2⟩ ⟨hk, hls, hub, hl2⟩
    dsimp only at hk hls hub hl2 ⊢
    by_cases hlt : k < xs.length
    · obtain ⟨o, hq⟩ := mem_get hlt
      have hm := List.mem_of_getElem? hq
      obtain ⟨b, oo, hia, cr⟩ := SlM.cm (g := GO.cells) (fun _ => rfl) (h.mono hl2) hq rfl
      have hgo := hx o hm
      have hbb := hls.b
      have hss := hls.s
      have hdd := hgo.dd
      rw [hia]
      refine Q.r ?_; (repeat (intro b1; refine Q.r ?_))
      refine S.y (Y.rem rfl rfl (by decide)) ?_
      rw [Int.tmod_eq_emod_of_nonneg hdd.1]
      by_cases h8 : o.d % 11 = 8
      · refine Q.r ?_; (repeat (intro b1; refine Q.r ?_))
        rw [← hia]
        refine ⟨(k + 1, j, M2), ⟨rfl, rfl, rfl, rfl, rfl, rfl, rfl, rfl, trivial⟩, by exact Go.SX.Ent.go, ⟨hlt, hls.skip, hub, hl2⟩, Nat.sub_succ_lt_self xs.length k hlt⟩
      by_cases h40 : k < 40
      · refine Q.r ?_; (repeat (intro b1; refine Q.r ?_))
        refine S.c3 (A := jdgH M2 p j) (B := rgH M2 x j) (C := roM M2) (args := [ptrG p, .pointer (some ⟨x, 0, none⟩), .agg o.cells.toArray]) rfl (Lstep_spec o p x j M2 _ hls.w (by omega) (by omega) (by omega) (by omega) (hgo.mono hl2) (hT.mono hl2)) ?_
        rintro _ _ ⟨M3, rfl, hl3, rfl⟩
        refine Q.r ?_; (repeat (intro b1; refine Q.r ?_))
        rw [← hia]
        refine ⟨(k + 1, stepG j o.d o.fr o.n.abs.few o.w, M3), ⟨rfl, rfl, rfl, rfl, rfl, rfl, rfl, rfl, trivial⟩, by exact Go.SX.Ent.go, ⟨hlt, hls.step h40 (few_num hgo.uu) _ _ _, hub.step hls.w (by omega) (by omega) (few_num hgo.uu) _ _ _ h8, hl2.trans hl3⟩, Nat.sub_succ_lt_self xs.length k hlt⟩
      · refine Q.r ?_; (repeat (intro b1; refine Q.r ?_))
        rw [← hia]
        refine ⟨(k + 1, j, M2), ⟨rfl, rfl, rfl, rfl, rfl, rfl, rfl, rfl, trivial⟩, by exact Go.SX.Ent.go, ⟨hlt, hls.skip, hub, hl2⟩, Nat.sub_succ_lt_self xs.length k hlt⟩
    · have hke : k = xs.length := by omega
      subst hke
      refine Q.r ?_; (repeat (intro b1; refine Q.r ?_))
      exact ⟨(j, M2), ⟨rfl, rfl, rfl, rfl, trivial⟩, by exact Go.SX.Ent.go, hls, hub, hl2⟩
  rintro ⟨j, M2⟩ ⟨hls, hub, hl2⟩
  dsimp only at hls hub hl2 ⊢
  have hbb := hls.b
  have hss := hls.s
  have hw := hls.w
  have hG := hw.g
  have htn := trials_len hG.kt
  have hok := openB_keys hub hw
  refine Q.r ?_; (repeat (intro b1; refine Q.r ?_))
  refine S.mkm U64 I64 (fun my => ?_)
  refine Q.r ?_; (repeat (intro b1; refine Q.r ?_))
  refine S.cg p rfl (GTrials_spec M2 p j _ hG (by omega)) ?_
  rintro _ _ ⟨a1, c1, us, M3, rfl, hl3, huo, hus, rfl⟩
  have hul : us.length = j.tr.length := by rw [map_len hus, htn]
  refine Q.r ?_; (repeat (intro b1; refine Q.r ?_))
  refine swp_abs a1 (fun M4 hl4 hs4 => ?_)
  refine swp_gm p hl4 ?_
  refine swp_cutB (σ := Unit) (fun _ => [(1, .int .u8 f0), (2, .int .u64 bt), (3, .slice ao ops.length co), (9, ptrG p), (14, .map (some my))])
    (fun _ => mpO U64 I64 my (openB (trialsG j)) :: jdgH M4 p j :: roM M4 :: []) (fun _ => True) ?_ ?_
  · refine swp_loop (σ := Nat) (fun k => [(1, .int .u8 f0), (2, .int .u64 bt), (3, .slice ao ops.length co), (9, ptrG p), (14, .map (some my)), (52, .slice a1 us.length c1), (53, .int .i64 us.length), (54, .int .i64 k)])
      (fun k => mpO U64 I64 my (openB ((us.take k).map TV.abs)) :: jdgH M4 p j :: roM M4 :: []) (fun k => k ≤ us.length) (fun k => us.length - k) 0 ⟨rfl, rfl, rfl, rfl, rfl, rfl, rfl, rfl, trivial⟩ (by show Ent _ (mpO U64 I64 my [] :: jdgH M4 p j :: roM M4 :: []); exact Go.SX.Ent.go) (Nat.zero_le _) ?_
    intro k hk
    by_cases hlt : k < us.length
    · obtain ⟨t, hq⟩ := mem_get hlt
      obtain ⟨b, oo, hia, cr⟩ := SlM.cm (g := TV.c8) (fun _ => rfl) hs4 hq rfl
      have e1 : openB ((us.take (k + 1)).map TV.abs) = openB ((us.take k).map TV.abs) ++ if t.stamp = 0 then [(t.batch, 1)] else [] := by rw [take_snoc hq, List.map_append]; exact openB_snoc _ _
      rw [hia]
      by_cases hs : t.stamp = 0
      · rw [if_pos hs] at e1
        have hkn : keysOK (openB ((us.take (k + 1)).map TV.abs)) := by
          rw [← hus] at hok
          have e2 : us.map TV.abs = (us.take (k + 1)).map TV.abs ++ (us.drop (k + 1)).map TV.abs := by rw [← List.map_append, List.take_append_drop]
          rw [e2] at hok
          unfold openB keysOK at hok ⊢
          rw [List.filter_append, List.map_append, List.map_append] at hok
          exact (List.nodup_append.1 hok).1
        have hno : ∀ u ∈ openB ((us.take k).map TV.abs), u.1 ≠ t.batch := by
          rw [e1] at hkn
          unfold keysOK at hkn
          rw [List.map_append, List.nodup_append] at hkn
          intro u hu e
          exact hkn.2.2 u.1 (List.mem_map_of_mem hu) t.batch (by simp) e
        have hlk0 := lkL_none hno
        have hput : putL (openB ((us.take k).map TV.abs)) t.batch 1 = openB ((us.take (k + 1)).map TV.abs) := by rw [putL_none hno, e1]
        have hlk1 : lkL (openB ((us.take (k + 1)).map TV.abs)) t.batch = some 1 := (lkL_iff hkn).2 (by rw [e1]; exact List.mem_append_right _ (List.mem_singleton.2 rfl))
        refine Q.r ?_; (repeat (intro b1; refine Q.r ?_))
        refine S.y (Y.lk false rfl rfl (fun w => Tryz.zeroValue3 w)) ?_
        rw [hlk0]
        dsimp only
        refine Q.r ?_; (repeat (intro b1; refine Q.r ?_))
        refine S.mu (g := U64) (r := I64) (q := t.batch) (u := 1) rfl rfl rfl ?_
        rw [hput]
        refine Q.r ?_; (repeat (intro b1; refine Q.r ?_))
        refine S.y (Y.lk false rfl rfl (fun w => Tryz.zeroValue3 w)) ?_
        rw [hlk1]
        dsimp only
        refine Q.r ?_; (repeat (intro b1; refine Q.r ?_))
        rw [← hia]
        exact ⟨k + 1, ⟨rfl, rfl, rfl, rfl, rfl, rfl, rfl, rfl, trivial⟩, by exact Go.SX.Ent.go, hlt, Nat.sub_succ_lt_self us.length k hlt⟩
      · rw [if_neg hs, List.append_nil] at e1
        refine Q.r ?_; (repeat (intro b1; refine Q.r ?_))
        rw [← hia]
        exact ⟨k + 1, ⟨rfl, rfl, rfl, rfl, rfl, rfl, rfl, rfl, trivial⟩, by rw [e1]; exact Go.SX.Ent.go, hlt, Nat.sub_succ_lt_self us.length k hlt⟩
    · have hke : k = us.length := by omega
      subst hke
      rw [List.take_length, hus]
      refine Q.r ?_; (repeat (intro b1; refine Q.r ?_))
      exact ⟨(), ⟨rfl, rfl, rfl, rfl, rfl, trivial⟩, by exact Go.SX.Ent.go, trivial⟩
  rintro _ _
  have hM4 := hl2.trans (hl3.trans hl4)
  have hT4 : TabM M4 := hT.mono hM4
  have hb6 : 0 ≤ bt % 6 ∧ bt % 6 < 6 := by omega
  have hn0 : okN M4 ⟨1, 0, bt % 6, 0, 0, 0, 0, 0, 0, 0, 0, 0, none, 0, [], ao, co, ops, none, 0, [], none, 0, []⟩ := ⟨SlM.nil0, ⟨ho.1.mono hM4, fun o hm => (ho.2 o hm).mono hM4⟩, SlM.nil0, SlM.nil0, fun o ho => by cases ho⟩
  have hc0 : CapN ⟨1, 0, bt % 6, 0, 0, 0, 0, 0, 0, 0, 0, 0, none, 0, [], ao, co, ops, none, 0, [], none, 0, []⟩ := ⟨Nat.le_refl _, hoc, Nat.le_refl _, fun o ho => (by cases ho), Nat.zero_le _, hol, Nat.zero_le _, Nat.zero_le _⟩
  refine Q.r ?_; (repeat (intro b1; refine Q.r ?_))
  refine S.y (Y.rem rfl rfl (by decide)) ?_
  rw [Int.tmod_eq_emod_of_nonneg hbt.1]
  refine Q.r ?_; (repeat (intro b1; refine Q.r ?_))
  refine S.cmG (args := [NV.val ⟨1, 0, bt % 6, 0, 0, 0, 0, 0, 0, 0, 0, 0, none, 0, [], ao, co, ops, none, 0, [], none, 0, []⟩]) rfl (NFew_spec ⟨1, 0, bt % 6, 0, 0, 0, 0, 0, 0, 0, 0, 0, none, 0, [], ao, co, ops, none, 0, [], none, 0, []⟩ M4 _ hn0 hc0) ?_
  rintro _ _ ⟨n1, M5, rfl, hl5, hn1, hc1, hoc1, he1, rfl⟩
  have hN1 := few_OkN he1
  have hk1 : n1.kind = 1 := congrArg NA.kind he1
  have hb1 : n1.batch = bt % 6 := congrArg NA.batch he1
  have hz : (0 : Int) ≤ 18446744073709551615 := by decide
  have hu1 : NumA n1.abs := by rw [he1]; exact ⟨(show (0 : Int) ≤ 1 ∧ (1 : Int) ≤ 255 by decide), ⟨Int.le_refl _, hz⟩, ⟨hb6.1, (show bt % 6 ≤ 18446744073709551615 by omega)⟩, ⟨Int.le_refl _, hz⟩, ⟨Int.le_refl _, hz⟩, ⟨Int.le_refl _, hz⟩, ⟨Int.le_refl _, hz⟩, ⟨Int.le_refl _, hz⟩, (show (0 : Int) ≤ 9223372036854775807 by decide), (show (0 : Int) ≤ 9223372036854775807 by decide), (show (0 : Int) ≤ 9223372036854775807 by decide), (show (0 : Int) ≤ 9223372036854775807 by decide)⟩
  refine opsS_gm p hl5 ?_
  refine Q.r ?_; (repeat (intro b1; refine Q.r ?_))
  revert b1
  intro b17
  refine S.y (Y.rem rfl rfl (by decide)) ?_
  rw [Int.tmod_eq_emod_of_nonneg hf0.1]
  have hf16 : 0 ≤ f0 % 16 ∧ f0 % 16 < 16 := by omega
  refine Q.r ?_; (repeat (intro b1; refine Q.r ?_))
  refine S.y (Y.cvi rfl) ?_
  rw [show IntKind.i64.wrap (f0 % 16) = f0 % 16 from wrap_i64 (by omega) (by omega)]
  refine Q.r ?_; (repeat (intro b1; refine Q.r ?_))
  refine S.cg p (args := [ptrG p, .int .i64 (f0 % 16), n1.val]) rfl (GPlan_spec n1 M5 p j (f0 % 16) _ hG.b hn1 hN1 (hT4.mono hl5) (show 0 ≤ n1.kind ∧ n1.kind ≤ 255 by omega)) ?_
  rintro _ _ ⟨q1, d1, rs, q2, d2, ns, q3, d3, ms, q4, d4, is, q5, d5, es, M6, rfl, hl6, ⟨o1, o2, o3, o4, o5⟩, ⟨e1, e2, e3, e4, e5⟩, rfl⟩
  refine Q.r ?_; (repeat (intro b1; refine Q.r ?_))
  revert b1
  intro b18
  refine S.cgn p rfl (GDone_spec M6 p j n1.batch _) ?_
  rintro _ _ ⟨rfl, rfl⟩
  have hn6 := hn1.mono hl6
  have hpl : planG j (f0 % 16) n1.abs = if rightN n1.abs = false then PG.none else askG j (f0 % 16) n1.abs := by
    unfold planG
    cases hr : rightN n1.abs with
    | false => rw [if_pos (.inl rfl), if_pos rfl]
    | true => rw [if_neg (by rintro (h | h | h); cases h; omega; omega), if_pos (show n1.abs.kind = 1 from hk1), if_neg (by decide)]
  have tail : ∀ (hpn : planG j (f0 % 16) n1.abs = PG.none), rs.length = 0 ∧ ns.length = 0 ∧ ms.length = 0 := fun hpn => by
    rw [hpn] at e1 e2 e3
    exact ⟨map_len e1, map_len e2, map_len e3⟩
  have look : ∀ {z : Int}, lkL (openB (trialsG j)) n1.batch = some z → z = 1 ∧ (lkL j.done n1.batch = none ∨ rightN n1.abs = false → planG j (f0 % 16) n1.abs = PG.none) := fun hz1 => by
    refine ⟨by rw [trialsL] at hz1; exact openB_one hz1, fun hor => ?_⟩
    have hany := openB_lk hw (b := n1.batch) (by rw [hz1]; rfl)
    rw [hpl]
    cases hr : rightN n1.abs with
    | false => rw [if_pos rfl]
    | true =>
      rw [if_neg (by decide)]
      have hd := hor.resolve_right (by rw [hr]; decide)
      unfold askG
      rw [show lkL j.done n1.abs.batch = none from hd]
      dsimp only
      rw [if_pos (show (j.tr.any fun u => decide (u.2.batch = n1.abs.batch)) = true from hany)]
  cases hz2 : lkL j.done n1.batch with
  | none =>
    dsimp only [Option.getD_none, Option.isSome_none]
    refine Q.r ?_; (repeat (intro b1; refine Q.r ?_))
    refine S.y (Y.lk false rfl rfl (fun w => Tryz.zeroValue3 w)) ?_
    cases hz3 : lkL (openB (trialsG j)) n1.batch with
    | none =>
      dsimp only
      refine Q.r ?_; (repeat (intro b1; refine Q.r ?_))
      exact N.r1 (RV.tmp rfl RV.nil) (Ent.refl _) rfl
    | some z =>
      obtain ⟨rfl, hpn⟩ := look hz3
      obtain ⟨t1, t2, t3⟩ := tail (hpn (.inl hz2))
      dsimp only
      refine Q.r ?_; (repeat (intro b1; refine Q.r ?_))
      exact N.r1 (RV.tmp rfl RV.nil) (Ent.refl _) (congrArg Value.bool (decide_eq_true (by omega)))
  | some s =>
    dsimp only [Option.getD_some, Option.isSome_some]
    refine Q.r ?_; (repeat (intro b1; refine Q.r ?_))
    refine S.cr (args := [n1.val]) rfl (Right12_spec n1 _ hn6.rd hN1 hu1) ?_
    rintro _ _ ⟨rfl, rfl⟩
    cases hr : rightN n1.abs with
    | false =>
      refine Q.r ?_; (repeat (intro b1; refine Q.r ?_))
      refine S.y (Y.lk false rfl rfl (fun w => Tryz.zeroValue3 w)) ?_
      cases hz3 : lkL (openB (trialsG j)) n1.batch with
      | none =>
        dsimp only
        refine Q.r ?_; (repeat (intro b1; refine Q.r ?_))
        exact N.r1 (RV.tmp rfl RV.nil) (Ent.refl _) rfl
      | some z =>
        obtain ⟨rfl, hpn⟩ := look hz3
        obtain ⟨t1, t2, t3⟩ := tail (hpn (.inr hr))
        dsimp only
        refine Q.r ?_; (repeat (intro b1; refine Q.r ?_))
        exact N.r1 (RV.tmp rfl RV.nil) (Ent.refl _) (congrArg Value.bool (decide_eq_true (by omega)))
    | true =>
      have hpa : planG j (f0 % 16) n1.abs = ⟨[], [], [repM (f0 % 16) n1.batch s 0], [], []⟩ := by
        rw [hpl, if_neg (by rw [hr]; decide)]
        unfold askG
        rw [show lkL j.done n1.abs.batch = some s from hz2]
      rw [hpa] at e2 e3
      have hn0 : ns.length = 0 := map_len e2
      obtain ⟨m, rfl, hm⟩ := map_one e3
      have hm1 : m.1 = f0 % 16 := congrArg Prod.fst hm
      have hm2 : m.2.abs = { NA.zero with kind := 2, batch := n1.batch, stamp := s, code := 0 } := congrArg Prod.snd hm
      have hmk : m.2.kind = 2 := congrArg NA.kind hm2
      have hms : m.2.stamp = s := congrArg NA.stamp hm2
      have hmc : m.2.code = 0 := congrArg NA.code hm2
      obtain ⟨b, oo, hia, cr⟩ := SlM.cm (g := mcells) (k := 0) (x := m) (fun _ => rfl) o3.1 rfl rfl
      have ct : CM M6 b (oo + 0 * 17 + 1) m.2.cells := fun i v hv => by
        have := cr (i + 1) v hv
        rwa [show oo + 0 * 17 + (i + 1) = oo + 0 * 17 + 1 + i by omega] at this
      rw [hia]
      refine Q.r ?_; (repeat (intro b1; refine Q.r ?_))
      refine S.y (Y.rem rfl rfl (by decide)) ?_
      rw [Int.tmod_eq_emod_of_nonneg hf0.1]
      refine Q.r ?_; (repeat (intro b1; refine Q.r ?_))
      refine S.y (Y.cvi rfl) ?_
      rw [show IntKind.i64.wrap (f0 % 16) = f0 % 16 from wrap_i64 (by omega) (by omega)]
      refine Q.r ?_; (repeat (intro b1; refine Q.r ?_))
      refine N.r1 (RV.tmp rfl RV.nil) (Ent.refl _) ?_
      exact congrArg Value.bool (decide_eq_true (by omega))
end Go.Proofs.YtiampehfpgcogaaGreatDoor
