/- The law's step, of the judge and of the document's. What a script does to a judge; giving up. The law: what is given up is told to each part and to who asked, and is no trial any more; what is committed isn't given up. No condition. -/
import Derived.Test.YtiampehfpgcogaaGreatDoorPk09
set_option linter.unusedVariables false
set_option linter.unusedSimpArgs false
set_option linter.unusedSectionVars false
namespace Go.Proofs.YtiampehfpgcogaaGreatDoor
open Go Go.SX
attribute [local irreducible] swp opsS thenS blockS retS CallsS St Ent YieldS anyS drawS
structure S7 where
  b9 : Nat
  b10 : Nat
  a1 : Option Addr
  c1 : Nat
  rs : List NV
  a2 : Option Addr
  c2 : Nat
  ns : List NV
  a3 : Option Addr
  c3 : Nat
  ms : List (Int × NV)
  a4 : Option Addr
  c4 : Nat
  is : List NV
  a5 : Option Addr
  c5 : Nat
  es : List (Int × NV)
  f1 : Option Addr
  d1 : Nat
  rs2 : List NV
  f2 : Option Addr
  d2 : Nat
  ns2 : List NV
  f3 : Option Addr
  d3 : Nat
  ms2 : List (Int × NV)
  f4 : Option Addr
  d4 : Nat
  is2 : List NV
  f5 : Option Addr
  d5 : Nat
  es2 : List (Int × NV)
  M : Nat → Option Obj
theorem Y.fld {P : Program} {n : Nat} {ops : List Oper} {f : Env} {A : List HP} {d : Tmp} {ty : TypeId} {pos : String} {af : Array Edge} {x : Operand} {t : TypeId} {k off sz : Nat} {fs : List (Nat × Nat × Bool)} {vs : Array Value} {v : Value} [h : StTy P t fs] (hx : ev f x = some (.agg vs)) (hf : fs[k]? = some (off, sz, false)) (hk : vs.toList[off]? = some v) : YieldS P n ops ⟨some d, .field t x k, ty, pos, af, none⟩ f A v := by
  obtain ⟨fields, hu, _, hfs⟩ := h.und
  obtain ⟨fld, h1, h2, h3, h4⟩ := hfs k off sz false hf
  refine Y.of (fun a w s => ?_)
  have hv' : vs[off]? = some v := by simpa using hk
  simp [execOp, s.eval hx, Instr.field, asAgg, part, hv', hu, h1, h2, h4]
theorem els_len {j : JG} (hW : WG j) (fr : Int) (n : NA) : (planG j fr n).els.length ≤ 5 := by
  unfold planG
  split
  · exact Nat.zero_le _
  split
  · unfold askG
    split
    · exact Nat.zero_le _
    · split
      · exact Nat.zero_le _
      · split <;> exact Nat.zero_le _
  split
  · unfold voteG
    split
    · exact Nat.zero_le _
    · rename_i t ht
      split
      · exact Nat.zero_le _
      split
      · exact Nat.zero_le _
      split
      · exact Nat.zero_le _
      split
      · exact Nat.zero_le _
      · have := (hW.lk ht).pl
        rw [toldM_len]; omega
  split
  · unfold ackG
    split
    · exact Nat.zero_le _
    · split
      · exact Nat.zero_le _
      · split <;> exact Nat.zero_le _
  split
  · unfold probeG
    split
    · exact Nat.zero_le _
    · split <;> exact Nat.zero_le _
  · exact Nat.zero_le _
theorem NumA.fewL {n' : NV} {n : NV} (h : NumA n.abs) (e : n'.abs = n.abs.few) : NumA n'.abs := by
  rw [e]; exact ⟨h.kind, h.txn, h.batch, h.stamp, h.after, h.mark, h.query, h.id, h.k, h.ef, h.code, h.who⟩
theorem few_num {n : NA} (h : NumA n) : NumA n.few := ⟨h.kind, h.txn, h.batch, h.stamp, h.after, h.mark, h.query, h.id, h.k, h.ef, h.code, h.who⟩
theorem map_len {α β : Type} {f : α → β} {l : List α} {m : List β} (h : l.map f = m) : l.length = m.length := by rw [← h, List.length_map]
abbrev p50 (b : Nat) (a1 : Option Addr) (c1 n1 : Nat) (a2 : Option Addr) (c2 n2 : Nat) (a3 : Option Addr) (c3 n3 : Nat) (a4 : Option Addr) (c4 n4 : Nat) (a5 : Option Addr) (c5 n5 : Nat) : HP := pt b (cl [.slice a1 n1 c1, .slice a2 n2 c2, .slice a3 n3 c3, .slice a4 n4 c4, .slice a5 n5 c5] 50)
abbrev p88 (b : Nat) (a1 : Option Addr) (c1 n1 : Nat) (a2 : Option Addr) (c2 n2 : Nat) (a3 : Option Addr) (c3 n3 : Nat) (a4 : Option Addr) (c4 n4 : Nat) (a5 : Option Addr) (c5 n5 : Nat) : HP := pt b (cl [.slice a1 n1 c1, .slice a2 n2 c2, .slice a3 n3 c3, .slice a4 n4 c4, .slice a5 n5 c5] 88)
set_option maxHeartbeats 8000000 in
theorem Lstep_spec (o : GO) (p x : Nat) (j : JG) (M : Nat → Option Obj) (L : List HP) (hw : WN j) (s1 : 1 ≤ j.shards) (s2 : j.shards ≤ 4) (htl : j.tr.length ≤ 40000) (hdl : j.done.length ≤ 40000) (ho : GOK M o) (hT : TabM M) :
    CallsS Tryz.prog 10 [ptrG p, .pointer (some ⟨x, 0, none⟩), .agg o.cells.toArray] (jdgH M p j :: rgH M x j :: roM M :: L) (fun r L' => ∃ M', r = .bool true ∧ leM M M' ∧ L' = jdgH M' p (stepG j o.d o.fr o.n.abs.few o.w) :: rgH M' x (stepG j o.d o.fr o.n.abs.few o.w) :: roM M' :: L) := by
  have hb := hw.g.b
  refine CallsS.of_body Tryz.func10 rfl rfl rfl ?_
  refine Q.r ?_; (repeat (intro b1; refine Q.r ?_))
  revert b1
  intro bo
  refine S.cmG (args := [o.n.val]) rfl (NFew_spec o.n M _ ho.n ho.c) ?_
  rintro _ _ ⟨n1, M1, rfl, hl1, hn1, hc1, hoc1, he1, rfl⟩
  have hN1 := few_OkN he1
  have hua1 : NumA n1.abs := NumA.fewL ho.uu he1
  refine opsS_gm p hl1 ?_
  refine opsS_rgm x hl1 ?_
  refine Q.r ?_; (repeat (intro b1; refine Q.r ?_))
  revert b1
  intro b7
  refine S.cmG (args := [n1.val]) rfl (NFew_spec n1 M1 _ hn1 hc1) ?_
  rintro _ _ ⟨n2, M2, rfl, hl2, hn2, hc2, hoc2, he2, rfl⟩
  have he21 : n2.abs = n1.abs := by rw [he2, he1, few_few]
  have e2 : n2.abs = o.n.abs.few := by rw [he21, he1]
  have hN2 := few_OkN he2
  have hua2 : NumA n2.abs := by rw [he21]; exact hua1
  have hu2 : NumN n2 := hua2.nv
  have hM2 := hl1.trans hl2
  have hT2 := hT.mono hM2
  have hufew : NumA o.n.abs.few := few_num ho.uu
  refine opsS_gm p hl2 ?_
  refine opsS_rgm x hl2 ?_
  refine Q.r ?_; (repeat (intro b1; refine Q.r ?_))
  revert b1
  intro b8
  refine S.y (Y.rem rfl rfl (by decide)) ?_
  rw [Int.tmod_eq_emod_of_nonneg ho.dd.1]
  have hd0 : 0 ≤ o.d % 11 := Int.emod_nonneg _ (by decide)
  by_cases h8 : o.d % 11 = 8
  · have hst : stepG j o.d o.fr o.n.abs.few o.w = appG j o.n.abs.few := by unfold stepG stepL; rw [if_pos h8]; rfl
    rw [hst]
    refine Q.r ?_; (repeat (intro b1; refine Q.r ?_))
    refine Q.dgo [true, false, false, false, true] [2, 5, 10] [] [0, 1, 3, 4, 2, 5, 6, 7, 8, 9, 10, 11, 12] ?_
    refine Q.rd ?_; (repeat (intro b1; refine Q.rd ?_))
    refine D.e rfl rfl rfl ?_
    refine S.cg p (args := [ptrG p, n2.val]) rfl (GApply_spec n2 M2 p j _ hw.g hn2 hN2 hT2 hu2 (by have := hua2.txn.2; show n2.abs.txn < _; omega)) ?_
    rintro _ _ ⟨M3, rfl, hl3, rfl⟩
    refine opsS_rgm x hl3 ?_
    refine Q.r ?_; (repeat (intro b1; refine Q.r ?_))
    refine Q.rd ?_; (repeat (intro b1; refine Q.rd ?_))
    refine D.e rfl rfl rfl ?_
    refine S.crg x (args := [.pointer (some ⟨x, 0, none⟩), n1.val]) rfl (RgApp_spec n1 x j M3 _ hw (by omega) (by omega) (hn1.mono (hl2.trans hl3)) hN1 hua1) ?_
    rintro _ _ ⟨M4, rfl, hl4, rfl⟩
    refine opsS_gm p hl4 ?_
    rw [e2, he1]
    refine Q.r ?_; (repeat (intro b1; refine Q.r ?_))
    refine Q.rd ?_; (repeat (intro b1; refine Q.rd ?_))
    refine Q.dT rfl rfl rfl ?_ (by simp)
    refine Q.rd ?_; (repeat (intro b1; refine Q.rd ?_))
    refine D.e rfl rfl rfl ?_
    refine S.guard rfl ?_
    refine S.cr (args := [n2.val, n1.val]) rfl (Same12_spec n2 n1 _ (hn2.mono (hl3.trans hl4)).rd (hn1.mono (hl2.trans (hl3.trans hl4))).rd hN2 hN1 he21) ?_
    rintro _ _ ⟨rfl, rfl⟩
    refine Q.r ?_; (repeat (intro b1; refine Q.r ?_))
    refine Q.rd ?_; (repeat (intro b1; refine Q.rd ?_))
    refine Q.r ?_; (repeat (intro b1; refine Q.r ?_))
    refine N.r1 (RV.tmp rfl RV.nil) ?_ ⟨M4, rfl, hM2.trans (hl3.trans hl4), rfl⟩
    exact Go.SX.Ent.go
  by_cases h9 : o.d % 11 = 9
  · have hst : stepG j o.d o.fr o.n.abs.few o.w = appL j (quitG j).notes := by unfold stepG stepL; rw [if_neg h8, if_pos h9]
    have hqo := quit_ok hw
    rw [hst]
    refine Q.r ?_; (repeat (intro b1; refine Q.r ?_))
    refine S.cg p rfl ((GQuit_spec M2 p j _ hw.g (by omega)).post fun _ _ h => planGR.of0 h) ?_
    rintro _ _ ⟨a1, c1, rs, a2, c2, ns, a3, c3, ms, a4, c4, is, a5, c5, es, M3, rfl, hl3, ⟨o1, o2, o3, o4, o5⟩, ⟨q1, q2, q3, q4, q5⟩, rfl⟩
    refine opsS_rgm x hl3 ?_
    have hnl : ns.length ≤ j.tr.length := by rw [map_len q2]; exact hqo.2.1
    refine Q.r ?_; (repeat (intro b1; refine Q.r ?_))
    refine S.y (Y.fld rfl rfl rfl) ?_
    refine Q.r ?_; (repeat (intro b1; refine Q.r ?_))
    refine S.c3 (A := jdgH M3 p j) (B := rgH M3 x j) (C := roM M3) rfl (Lapply_spec a2 c2 ns p x j M3 _ o2 (fun n hn => ⟨(hqo.1 _ (q2 ▸ List.mem_map_of_mem hn)).1, OkN.of (hqo.1 _ (q2 ▸ List.mem_map_of_mem hn)).2⟩) hw (by omega) (by omega) (hT2.mono hl3)) ?_
    rintro _ _ ⟨M4, rfl, hl4, rfl⟩
    rw [q2]
    refine Q.r ?_; (repeat (intro b1; refine Q.r ?_))
    refine N.r1 (RV.tmp rfl RV.nil) ?_ ⟨M4, rfl, hM2.trans (hl3.trans hl4), rfl⟩
    exact Go.SX.Ent.go
  by_cases h10 : o.d % 11 = 10
  · have hst : stepG j o.d o.fr o.n.abs.few o.w = appL j [epochN (j.epoch + 1)] := by unfold stepG stepL; rw [if_neg h8, if_neg h9, if_pos h10]
    rw [hst]
    have e0 := hb.e0
    have e1 := hb.e1
    refine Q.r ?_; (repeat (intro b1; refine Q.r ?_))
    refine S.cgn p rfl (GEpoch_spec M2 p j _) ?_
    rintro _ _ ⟨rfl, rfl⟩
    refine Q.r ?_; (repeat (intro b1; refine Q.r ?_))
    refine S.y (Y.add rfl rfl) ?_
    rw [show IntKind.u64.wrap (j.epoch + 1) = j.epoch + 1 from wrap_u64 (by omega) (by omega)]
    refine Q.r ?_; (repeat (intro b1; refine Q.r ?_))
    refine opsS_ent (slO_fold (sz := 16) (m := 1) rfl) ?_
    refine opsS_abs (some ⟨b1, 0, none⟩) (fun M3 hl3 hs3 => ?_)
    refine opsS_gm p hl3 ?_
    refine opsS_rgm x hl3 ?_
    have hne : NumA (epochN (j.epoch + 1)) := NumA.of (show (0 : Int) ≤ 16 by decide) (show (16 : Int) ≤ 255 by decide) (Int.le_refl _) (show (0 : Int) ≤ 18446744073709551615 by decide) (Int.le_refl _) (show (0 : Int) ≤ 18446744073709551615 by decide) (Int.le_refl _) (show (0 : Int) ≤ 18446744073709551615 by decide) (Int.le_refl _) (show (0 : Int) ≤ 18446744073709551615 by decide) (show (0 : Int) ≤ 9223372036854775807 by decide) (show 0 ≤ j.epoch + 1 by omega) (show j.epoch + 1 ≤ _ by omega) rfl rfl rfl rfl rfl
    refine S.c3 (A := jdgH M3 p j) (B := rgH M3 x j) (C := roM M3) rfl (Lapply_spec (some ⟨b1, 0, none⟩) 1 [(epochN (j.epoch + 1)).nv] p x j M3 _ ⟨hs3, fun m hm => (by rw [List.mem_singleton.1 hm]; exact okN.nv _)⟩ (fun n hn => (by rw [List.mem_singleton.1 hn]; exact ⟨hne, OkN.of (OkA.bare (Nat.zero_le _) rfl rfl rfl)⟩)) hw (by rw [List.length_singleton]; omega) (by rw [List.length_singleton]; omega) (hT2.mono hl3)) ?_
    rintro _ _ ⟨M4, rfl, hl4, rfl⟩
    rw [show [(epochN (j.epoch + 1)).nv].map NV.abs = [epochN (j.epoch + 1)] from rfl]
    refine Q.r ?_; (repeat (intro b1; refine Q.r ?_))
    refine N.r1 (RV.tmp rfl RV.nil) ?_ ⟨M4, rfl, hM2.trans (hl3.trans hl4), rfl⟩
    exact Go.SX.Ent.go
  have hpn := plan_ok hw s1 s2 hufew o.fr
  have hone := plan_ones j o.fr o.n.abs.few
  have hml := mail_len hw.g s1 s2 o.fr o.n.abs.few
  have hel := els_len hw.g o.fr o.n.abs.few
  refine Q.r ?_; (repeat (intro b1; refine Q.r ?_))
  refine swp_cutT (σ := S7) (fun s => [(0, ptrG p), (1, .pointer (some ⟨x, 0, none⟩)), (5, .pointer (some ⟨bo, 0, none⟩)), (7, .pointer (some ⟨b7, 0, none⟩)), (8, .pointer (some ⟨b8, 0, none⟩)), (9, .pointer (some ⟨s.b9, 0, none⟩)), (10, .pointer (some ⟨s.b10, 0, none⟩))])
    (fun s => p50 s.b9 s.a1 s.c1 s.rs.length s.a2 s.c2 s.ns.length s.a3 s.c3 s.ms.length s.a4 s.c4 s.is.length s.a5 s.c5 s.es.length :: p88 s.b10 s.f1 s.d1 s.rs2.length s.f2 s.d2 s.ns2.length s.f3 s.d3 s.ms2.length s.f4 s.d4 s.is2.length s.f5 s.d5 s.es2.length :: pt b8 (cl n2.cells 52) :: pt b7 (cl n1.cells 39) :: pt bo (cl o.cells 41) :: jdgH s.M p j :: rgH s.M x j :: roM s.M :: L)
    (fun s => P5 s.M (planG j o.fr o.n.abs.few) s.a1 s.rs s.a2 s.ns s.a3 s.ms s.a4 s.is s.a5 s.es ∧ P5 s.M (planG j o.fr o.n.abs.few) s.f1 s.rs2 s.f2 s.ns2 s.f3 s.ms2 s.f4 s.is2 s.f5 s.es2 ∧ leM M2 s.M) ?_ ?_
  ·
    refine Q.dgo [true, false, false, false, true, true] [4, 9, 10, 11, 12, 13] [] [0, 1, 2, 3, 5, 6, 7, 8, 99999, 0, 0, 0, 0, 0] ?_
    repeat (first | refine D.endA ?_ | refine Q.dp rfl rfl rfl ?_ | refine Q.dy rfl rfl rfl ?_ | refine D.end_ ?_ | refine Q.endH ?_ | (refine D.e rfl rfl rfl ?_; (first | refine S.gskip1 rfl ?_ | refine S.gskip rfl ?_ | refine S.y (Y.gskipU rfl) ?_); refine opsS_nil ?_; refine N.tn ?_))
    refine D.three 4 10 11 [99999, 0, 0, 0, 0] [99999, 0, 0, 0, 0] [99999, 0, 0, 0, 0] (by kernel_rfl) rfl rfl rfl rfl rfl rfl (by kernel_rfl) (by kernel_rfl) (by kernel_rfl) ?_ ?_ ?_
    · refine S.cg p (args := [ptrG p, .int .i64 o.fr, n2.val]) rfl (GPlan_spec n2 M2 p j o.fr _ hb hn2 hN2 (hT.mono hM2) hu2.kind) ?_
      rintro _ _ ⟨a1, c1, rs, a2, c2, ns, a3, c3, ms, a4, c4, is, a5, c5, es, M3, rfl, hl3, ⟨o1, o2, o3, o4, o5⟩, ⟨q1, q2, q3, q4, q5⟩, rfl⟩
      refine opsS_rgm x hl3 ?_
      refine Q.r ?_; (repeat (intro b1; refine Q.r ?_))
      repeat (first | refine D.endA ?_ | refine Q.dp rfl rfl rfl ?_ | refine Q.dy rfl rfl rfl ?_ | refine D.end_ ?_ | refine Q.endH ?_ | (refine D.e rfl rfl rfl ?_; (first | refine S.gskip1 rfl ?_ | refine S.gskip rfl ?_ | refine S.y (Y.gskipU rfl) ?_); refine opsS_nil ?_; refine N.tn ?_))
      refine D.three 9 10 11 [99999, 0, 0, 0] [99999, 0, 0, 0] [99999, 0, 0, 0] (by kernel_rfl) rfl rfl rfl rfl rfl rfl (by kernel_rfl) (by kernel_rfl) (by kernel_rfl) ?_ ?_ ?_
      · refine S.crg x (args := [.pointer (some ⟨x, 0, none⟩), .int .i64 o.fr, n1.val]) rfl (RgDo_spec n1 M3 x j o.fr _ hw (by omega) (by omega) (hn1.mono (hl2.trans hl3)) hN1 hoc1 hua1) ?_
        rintro _ _ ⟨f1, d1, rs2, f2, d2, ns2, f3, d3, ms2, f4, d4, is2, f5, d5, es2, M4, rfl, hl4, ⟨o1', o2', o3', o4', o5'⟩, ⟨q1', q2', q3', q4', q5'⟩, rfl⟩
        refine opsS_gm p hl4 ?_
        refine Q.r ?_; (repeat (intro b1; refine Q.r ?_))
        repeat (first | refine D.endA ?_ | refine Q.dp rfl rfl rfl ?_ | refine Q.dy rfl rfl rfl ?_ | refine D.end_ ?_ | refine Q.endH ?_ | (refine D.e rfl rfl rfl ?_; (first | refine S.gskip1 rfl ?_ | refine S.gskip rfl ?_ | refine S.y (Y.gskipU rfl) ?_); refine opsS_nil ?_; refine N.tn ?_))
        refine D.two 10 11 [11, 12, 13] [10, 12, 13] (by kernel_rfl) rfl rfl rfl rfl (by kernel_rfl) (by kernel_rfl) ?_ ?_
        · refine GQ.a ?_
          refine Q.al (fun b9 => ?_)
          refine Q.r ?_; (repeat (intro b1; refine Q.r ?_))
          repeat (first | refine D.endA ?_ | refine Q.dp rfl rfl rfl ?_ | refine Q.dy rfl rfl rfl ?_ | refine D.end_ ?_ | refine Q.endH ?_ | (refine D.e rfl rfl rfl ?_; (first | refine S.gskip1 rfl ?_ | refine S.gskip rfl ?_ | refine S.y (Y.gskipU rfl) ?_); refine opsS_nil ?_; refine N.tn ?_))
          refine D.e rfl rfl rfl ?_
          refine GQ.a ?_
          refine Q.al (fun b10 => ?_)
          refine Q.r ?_; (repeat (intro b1; refine Q.r ?_))
          repeat (first | refine D.endA ?_ | refine Q.dp rfl rfl rfl ?_ | refine Q.dy rfl rfl rfl ?_ | refine D.end_ ?_ | refine Q.endH ?_ | (refine D.e rfl rfl rfl ?_; (first | refine S.gskip1 rfl ?_ | refine S.gskip rfl ?_ | refine S.y (Y.gskipU rfl) ?_); refine opsS_nil ?_; refine N.tn ?_))
          refine D.e rfl rfl rfl ?_
          refine Q.r ?_; (repeat (intro b1; refine Q.r ?_))
          repeat (first | refine D.endA ?_ | refine Q.dp rfl rfl rfl ?_ | refine Q.dy rfl rfl rfl ?_ | refine D.end_ ?_ | refine Q.endH ?_ | (refine D.e rfl rfl rfl ?_; (first | refine S.gskip1 rfl ?_ | refine S.gskip rfl ?_ | refine S.y (Y.gskipU rfl) ?_); refine opsS_nil ?_; refine N.tn ?_))
          refine D.e rfl rfl rfl ?_
          refine Q.r ?_; (repeat (intro b1; refine Q.r ?_))
          repeat (first | refine D.endA ?_ | refine Q.dp rfl rfl rfl ?_ | refine Q.dy rfl rfl rfl ?_ | refine D.end_ ?_ | refine Q.endH ?_ | (refine D.e rfl rfl rfl ?_; (first | refine S.gskip1 rfl ?_ | refine S.gskip rfl ?_ | refine S.y (Y.gskipU rfl) ?_); refine opsS_nil ?_; refine N.tn ?_))
          repeat (first | refine D.endA ?_ | refine Q.dp rfl rfl rfl ?_ | refine Q.dy rfl rfl rfl ?_ | refine D.end_ ?_ | refine Q.endH ?_ | (refine D.e rfl rfl rfl ?_; (first | refine S.gskip1 rfl ?_ | refine S.gskip rfl ?_ | refine S.y (Y.gskipU rfl) ?_); refine opsS_nil ?_; refine N.tn ?_))
          have hp5 : P5 M4 (planG j o.fr o.n.abs.few) a1 rs a2 ns a3 ms a4 is a5 es := ⟨o1.mono hl4, o2.mono hl4, o3.mono hl4, o4.mono hl4, o5.mono hl4, e2 ▸ q1, e2 ▸ q2, e2 ▸ q3, e2 ▸ q4, e2 ▸ q5⟩
          have hp5' : P5 M4 (planG j o.fr o.n.abs.few) f1 rs2 f2 ns2 f3 ms2 f4 is2 f5 es2 := ⟨o1', o2', o3', o4', o5', he1 ▸ q1', he1 ▸ q2', he1 ▸ q3', he1 ▸ q4', he1 ▸ q5'⟩
          refine N.tn ⟨⟨b9, b10, a1, c1, rs, a2, c2, ns, a3, c3, ms, a4, c4, is, a5, c5, es, f1, d1, rs2, f2, d2, ns2, f3, d3, ms2, f4, d4, is2, f5, d5, es2, M4⟩, ⟨rfl, rfl, rfl, rfl, rfl, rfl, rfl, trivial⟩, ?_, hp5, hp5', hl3.trans hl4⟩
          (try dsimp only); exact Go.SX.Ent.go
        · refine GQ.a ?_
          refine Q.al (fun b10 => ?_)
          refine Q.r ?_; (repeat (intro b1; refine Q.r ?_))
          repeat (first | refine D.endA ?_ | refine Q.dp rfl rfl rfl ?_ | refine Q.dy rfl rfl rfl ?_ | refine D.end_ ?_ | refine Q.endH ?_ | (refine D.e rfl rfl rfl ?_; (first | refine S.gskip1 rfl ?_ | refine S.gskip rfl ?_ | refine S.y (Y.gskipU rfl) ?_); refine opsS_nil ?_; refine N.tn ?_))
          refine D.e rfl rfl rfl ?_
          refine GQ.a ?_
          refine Q.al (fun b9 => ?_)
          refine Q.r ?_; (repeat (intro b1; refine Q.r ?_))
          repeat (first | refine D.endA ?_ | refine Q.dp rfl rfl rfl ?_ | refine Q.dy rfl rfl rfl ?_ | refine D.end_ ?_ | refine Q.endH ?_ | (refine D.e rfl rfl rfl ?_; (first | refine S.gskip1 rfl ?_ | refine S.gskip rfl ?_ | refine S.y (Y.gskipU rfl) ?_); refine opsS_nil ?_; refine N.tn ?_))
          refine D.e rfl rfl rfl ?_
          refine Q.r ?_; (repeat (intro b1; refine Q.r ?_))
          repeat (first | refine D.endA ?_ | refine Q.dp rfl rfl rfl ?_ | refine Q.dy rfl rfl rfl ?_ | refine D.end_ ?_ | refine Q.endH ?_ | (refine D.e rfl rfl rfl ?_; (first | refine S.gskip1 rfl ?_ | refine S.gskip rfl ?_ | refine S.y (Y.gskipU rfl) ?_); refine opsS_nil ?_; refine N.tn ?_))
          refine D.e rfl rfl rfl ?_
          refine Q.r ?_; (repeat (intro b1; refine Q.r ?_))
          repeat (first | refine D.endA ?_ | refine Q.dp rfl rfl rfl ?_ | refine Q.dy rfl rfl rfl ?_ | refine D.end_ ?_ | refine Q.endH ?_ | (refine D.e rfl rfl rfl ?_; (first | refine S.gskip1 rfl ?_ | refine S.gskip rfl ?_ | refine S.y (Y.gskipU rfl) ?_); refine opsS_nil ?_; refine N.tn ?_))
          repeat (first | refine D.endA ?_ | refine Q.dp rfl rfl rfl ?_ | refine Q.dy rfl rfl rfl ?_ | refine D.end_ ?_ | refine Q.endH ?_ | (refine D.e rfl rfl rfl ?_; (first | refine S.gskip1 rfl ?_ | refine S.gskip rfl ?_ | refine S.y (Y.gskipU rfl) ?_); refine opsS_nil ?_; refine N.tn ?_))
          have hp5 : P5 M4 (planG j o.fr o.n.abs.few) a1 rs a2 ns a3 ms a4 is a5 es := ⟨o1.mono hl4, o2.mono hl4, o3.mono hl4, o4.mono hl4, o5.mono hl4, e2 ▸ q1, e2 ▸ q2, e2 ▸ q3, e2 ▸ q4, e2 ▸ q5⟩
          have hp5' : P5 M4 (planG j o.fr o.n.abs.few) f1 rs2 f2 ns2 f3 ms2 f4 is2 f5 es2 := ⟨o1', o2', o3', o4', o5', he1 ▸ q1', he1 ▸ q2', he1 ▸ q3', he1 ▸ q4', he1 ▸ q5'⟩
          refine N.tn ⟨⟨b9, b10, a1, c1, rs, a2, c2, ns, a3, c3, ms, a4, c4, is, a5, c5, es, f1, d1, rs2, f2, d2, ns2, f3, d3, ms2, f4, d4, is2, f5, d5, es2, M4⟩, ⟨rfl, rfl, rfl, rfl, rfl, rfl, rfl, trivial⟩, ?_, hp5, hp5', hl3.trans hl4⟩
          (try dsimp only); exact Go.SX.Ent.go
      · refine GQ.a ?_
        refine Q.al (fun b9 => ?_)
        refine Q.r ?_; (repeat (intro b1; refine Q.r ?_))
        repeat (first | refine D.endA ?_ | refine Q.dp rfl rfl rfl ?_ | refine Q.dy rfl rfl rfl ?_ | refine D.end_ ?_ | refine Q.endH ?_ | (refine D.e rfl rfl rfl ?_; (first | refine S.gskip1 rfl ?_ | refine S.gskip rfl ?_ | refine S.y (Y.gskipU rfl) ?_); refine opsS_nil ?_; refine N.tn ?_))
        refine D.two 9 11 [11, 12, 13] [9, 12, 13] (by kernel_rfl) rfl rfl rfl rfl (by kernel_rfl) (by kernel_rfl) ?_ ?_
        · refine S.crg x (args := [.pointer (some ⟨x, 0, none⟩), .int .i64 o.fr, n1.val]) rfl (RgDo_spec n1 M3 x j o.fr _ hw (by omega) (by omega) (hn1.mono (hl2.trans hl3)) hN1 hoc1 hua1) ?_
          rintro _ _ ⟨f1, d1, rs2, f2, d2, ns2, f3, d3, ms2, f4, d4, is2, f5, d5, es2, M4, rfl, hl4, ⟨o1', o2', o3', o4', o5'⟩, ⟨q1', q2', q3', q4', q5'⟩, rfl⟩
          refine opsS_gm p hl4 ?_
          refine Q.r ?_; (repeat (intro b1; refine Q.r ?_))
          repeat (first | refine D.endA ?_ | refine Q.dp rfl rfl rfl ?_ | refine Q.dy rfl rfl rfl ?_ | refine D.end_ ?_ | refine Q.endH ?_ | (refine D.e rfl rfl rfl ?_; (first | refine S.gskip1 rfl ?_ | refine S.gskip rfl ?_ | refine S.y (Y.gskipU rfl) ?_); refine opsS_nil ?_; refine N.tn ?_))
          refine D.e rfl rfl rfl ?_
          refine GQ.a ?_
          refine Q.al (fun b10 => ?_)
          refine Q.r ?_; (repeat (intro b1; refine Q.r ?_))
          repeat (first | refine D.endA ?_ | refine Q.dp rfl rfl rfl ?_ | refine Q.dy rfl rfl rfl ?_ | refine D.end_ ?_ | refine Q.endH ?_ | (refine D.e rfl rfl rfl ?_; (first | refine S.gskip1 rfl ?_ | refine S.gskip rfl ?_ | refine S.y (Y.gskipU rfl) ?_); refine opsS_nil ?_; refine N.tn ?_))
          refine D.e rfl rfl rfl ?_
          refine Q.r ?_; (repeat (intro b1; refine Q.r ?_))
          repeat (first | refine D.endA ?_ | refine Q.dp rfl rfl rfl ?_ | refine Q.dy rfl rfl rfl ?_ | refine D.end_ ?_ | refine Q.endH ?_ | (refine D.e rfl rfl rfl ?_; (first | refine S.gskip1 rfl ?_ | refine S.gskip rfl ?_ | refine S.y (Y.gskipU rfl) ?_); refine opsS_nil ?_; refine N.tn ?_))
          refine D.e rfl rfl rfl ?_
          refine Q.r ?_; (repeat (intro b1; refine Q.r ?_))
          repeat (first | refine D.endA ?_ | refine Q.dp rfl rfl rfl ?_ | refine Q.dy rfl rfl rfl ?_ | refine D.end_ ?_ | refine Q.endH ?_ | (refine D.e rfl rfl rfl ?_; (first | refine S.gskip1 rfl ?_ | refine S.gskip rfl ?_ | refine S.y (Y.gskipU rfl) ?_); refine opsS_nil ?_; refine N.tn ?_))
          repeat (first | refine D.endA ?_ | refine Q.dp rfl rfl rfl ?_ | refine Q.dy rfl rfl rfl ?_ | refine D.end_ ?_ | refine Q.endH ?_ | (refine D.e rfl rfl rfl ?_; (first | refine S.gskip1 rfl ?_ | refine S.gskip rfl ?_ | refine S.y (Y.gskipU rfl) ?_); refine opsS_nil ?_; refine N.tn ?_))
          have hp5 : P5 M4 (planG j o.fr o.n.abs.few) a1 rs a2 ns a3 ms a4 is a5 es := ⟨o1.mono hl4, o2.mono hl4, o3.mono hl4, o4.mono hl4, o5.mono hl4, e2 ▸ q1, e2 ▸ q2, e2 ▸ q3, e2 ▸ q4, e2 ▸ q5⟩
          have hp5' : P5 M4 (planG j o.fr o.n.abs.few) f1 rs2 f2 ns2 f3 ms2 f4 is2 f5 es2 := ⟨o1', o2', o3', o4', o5', he1 ▸ q1', he1 ▸ q2', he1 ▸ q3', he1 ▸ q4', he1 ▸ q5'⟩
          refine N.tn ⟨⟨b9, b10, a1, c1, rs, a2, c2, ns, a3, c3, ms, a4, c4, is, a5, c5, es, f1, d1, rs2, f2, d2, ns2, f3, d3, ms2, f4, d4, is2, f5, d5, es2, M4⟩, ⟨rfl, rfl, rfl, rfl, rfl, rfl, rfl, trivial⟩, ?_, hp5, hp5', hl3.trans hl4⟩
          (try dsimp only); exact Go.SX.Ent.go
        · refine GQ.a ?_
          refine Q.al (fun b10 => ?_)
          refine Q.r ?_; (repeat (intro b1; refine Q.r ?_))
          repeat (first | refine D.endA ?_ | refine Q.dp rfl rfl rfl ?_ | refine Q.dy rfl rfl rfl ?_ | refine D.end_ ?_ | refine Q.endH ?_ | (refine D.e rfl rfl rfl ?_; (first | refine S.gskip1 rfl ?_ | refine S.gskip rfl ?_ | refine S.y (Y.gskipU rfl) ?_); refine opsS_nil ?_; refine N.tn ?_))
          refine D.e rfl rfl rfl ?_
          refine S.crg x (args := [.pointer (some ⟨x, 0, none⟩), .int .i64 o.fr, n1.val]) rfl (RgDo_spec n1 M3 x j o.fr _ hw (by omega) (by omega) (hn1.mono (hl2.trans hl3)) hN1 hoc1 hua1) ?_
          rintro _ _ ⟨f1, d1, rs2, f2, d2, ns2, f3, d3, ms2, f4, d4, is2, f5, d5, es2, M4, rfl, hl4, ⟨o1', o2', o3', o4', o5'⟩, ⟨q1', q2', q3', q4', q5'⟩, rfl⟩
          refine opsS_gm p hl4 ?_
          refine Q.r ?_; (repeat (intro b1; refine Q.r ?_))
          repeat (first | refine D.endA ?_ | refine Q.dp rfl rfl rfl ?_ | refine Q.dy rfl rfl rfl ?_ | refine D.end_ ?_ | refine Q.endH ?_ | (refine D.e rfl rfl rfl ?_; (first | refine S.gskip1 rfl ?_ | refine S.gskip rfl ?_ | refine S.y (Y.gskipU rfl) ?_); refine opsS_nil ?_; refine N.tn ?_))
          refine D.e rfl rfl rfl ?_
          refine Q.r ?_; (repeat (intro b1; refine Q.r ?_))
          repeat (first | refine D.endA ?_ | refine Q.dp rfl rfl rfl ?_ | refine Q.dy rfl rfl rfl ?_ | refine D.end_ ?_ | refine Q.endH ?_ | (refine D.e rfl rfl rfl ?_; (first | refine S.gskip1 rfl ?_ | refine S.gskip rfl ?_ | refine S.y (Y.gskipU rfl) ?_); refine opsS_nil ?_; refine N.tn ?_))
          refine D.e rfl rfl rfl ?_
          refine Q.r ?_; (repeat (intro b1; refine Q.r ?_))
          repeat (first | refine D.endA ?_ | refine Q.dp rfl rfl rfl ?_ | refine Q.dy rfl rfl rfl ?_ | refine D.end_ ?_ | refine Q.endH ?_ | (refine D.e rfl rfl rfl ?_; (first | refine S.gskip1 rfl ?_ | refine S.gskip rfl ?_ | refine S.y (Y.gskipU rfl) ?_); refine opsS_nil ?_; refine N.tn ?_))
          repeat (first | refine D.endA ?_ | refine Q.dp rfl rfl rfl ?_ | refine Q.dy rfl rfl rfl ?_ | refine D.end_ ?_ | refine Q.endH ?_ | (refine D.e rfl rfl rfl ?_; (first | refine S.gskip1 rfl ?_ | refine S.gskip rfl ?_ | refine S.y (Y.gskipU rfl) ?_); refine opsS_nil ?_; refine N.tn ?_))
          have hp5 : P5 M4 (planG j o.fr o.n.abs.few) a1 rs a2 ns a3 ms a4 is a5 es := ⟨o1.mono hl4, o2.mono hl4, o3.mono hl4, o4.mono hl4, o5.mono hl4, e2 ▸ q1, e2 ▸ q2, e2 ▸ q3, e2 ▸ q4, e2 ▸ q5⟩
          have hp5' : P5 M4 (planG j o.fr o.n.abs.few) f1 rs2 f2 ns2 f3 ms2 f4 is2 f5 es2 := ⟨o1', o2', o3', o4', o5', he1 ▸ q1', he1 ▸ q2', he1 ▸ q3', he1 ▸ q4', he1 ▸ q5'⟩
          refine N.tn ⟨⟨b9, b10, a1, c1, rs, a2, c2, ns, a3, c3, ms, a4, c4, is, a5, c5, es, f1, d1, rs2, f2, d2, ns2, f3, d3, ms2, f4, d4, is2, f5, d5, es2, M4⟩, ⟨rfl, rfl, rfl, rfl, rfl, rfl, rfl, trivial⟩, ?_, hp5, hp5', hl3.trans hl4⟩
          (try dsimp only); exact Go.SX.Ent.go
      · refine GQ.a ?_
        refine Q.al (fun b10 => ?_)
        refine Q.r ?_; (repeat (intro b1; refine Q.r ?_))
        repeat (first | refine D.endA ?_ | refine Q.dp rfl rfl rfl ?_ | refine Q.dy rfl rfl rfl ?_ | refine D.end_ ?_ | refine Q.endH ?_ | (refine D.e rfl rfl rfl ?_; (first | refine S.gskip1 rfl ?_ | refine S.gskip rfl ?_ | refine S.y (Y.gskipU rfl) ?_); refine opsS_nil ?_; refine N.tn ?_))
        refine D.two 9 10 [10, 12, 13] [9, 12, 13] (by kernel_rfl) rfl rfl rfl rfl (by kernel_rfl) (by kernel_rfl) ?_ ?_
        · refine S.crg x (args := [.pointer (some ⟨x, 0, none⟩), .int .i64 o.fr, n1.val]) rfl (RgDo_spec n1 M3 x j o.fr _ hw (by omega) (by omega) (hn1.mono (hl2.trans hl3)) hN1 hoc1 hua1) ?_
          rintro _ _ ⟨f1, d1, rs2, f2, d2, ns2, f3, d3, ms2, f4, d4, is2, f5, d5, es2, M4, rfl, hl4, ⟨o1', o2', o3', o4', o5'⟩, ⟨q1', q2', q3', q4', q5'⟩, rfl⟩
          refine opsS_gm p hl4 ?_
          refine Q.r ?_; (repeat (intro b1; refine Q.r ?_))
          repeat (first | refine D.endA ?_ | refine Q.dp rfl rfl rfl ?_ | refine Q.dy rfl rfl rfl ?_ | refine D.end_ ?_ | refine Q.endH ?_ | (refine D.e rfl rfl rfl ?_; (first | refine S.gskip1 rfl ?_ | refine S.gskip rfl ?_ | refine S.y (Y.gskipU rfl) ?_); refine opsS_nil ?_; refine N.tn ?_))
          refine D.e rfl rfl rfl ?_
          refine GQ.a ?_
          refine Q.al (fun b9 => ?_)
          refine Q.r ?_; (repeat (intro b1; refine Q.r ?_))
          repeat (first | refine D.endA ?_ | refine Q.dp rfl rfl rfl ?_ | refine Q.dy rfl rfl rfl ?_ | refine D.end_ ?_ | refine Q.endH ?_ | (refine D.e rfl rfl rfl ?_; (first | refine S.gskip1 rfl ?_ | refine S.gskip rfl ?_ | refine S.y (Y.gskipU rfl) ?_); refine opsS_nil ?_; refine N.tn ?_))
          refine D.e rfl rfl rfl ?_
          refine Q.r ?_; (repeat (intro b1; refine Q.r ?_))
          repeat (first | refine D.endA ?_ | refine Q.dp rfl rfl rfl ?_ | refine Q.dy rfl rfl rfl ?_ | refine D.end_ ?_ | refine Q.endH ?_ | (refine D.e rfl rfl rfl ?_; (first | refine S.gskip1 rfl ?_ | refine S.gskip rfl ?_ | refine S.y (Y.gskipU rfl) ?_); refine opsS_nil ?_; refine N.tn ?_))
          refine D.e rfl rfl rfl ?_
          refine Q.r ?_; (repeat (intro b1; refine Q.r ?_))
          repeat (first | refine D.endA ?_ | refine Q.dp rfl rfl rfl ?_ | refine Q.dy rfl rfl rfl ?_ | refine D.end_ ?_ | refine Q.endH ?_ | (refine D.e rfl rfl rfl ?_; (first | refine S.gskip1 rfl ?_ | refine S.gskip rfl ?_ | refine S.y (Y.gskipU rfl) ?_); refine opsS_nil ?_; refine N.tn ?_))
          repeat (first | refine D.endA ?_ | refine Q.dp rfl rfl rfl ?_ | refine Q.dy rfl rfl rfl ?_ | refine D.end_ ?_ | refine Q.endH ?_ | (refine D.e rfl rfl rfl ?_; (first | refine S.gskip1 rfl ?_ | refine S.gskip rfl ?_ | refine S.y (Y.gskipU rfl) ?_); refine opsS_nil ?_; refine N.tn ?_))
          have hp5 : P5 M4 (planG j o.fr o.n.abs.few) a1 rs a2 ns a3 ms a4 is a5 es := ⟨o1.mono hl4, o2.mono hl4, o3.mono hl4, o4.mono hl4, o5.mono hl4, e2 ▸ q1, e2 ▸ q2, e2 ▸ q3, e2 ▸ q4, e2 ▸ q5⟩
          have hp5' : P5 M4 (planG j o.fr o.n.abs.few) f1 rs2 f2 ns2 f3 ms2 f4 is2 f5 es2 := ⟨o1', o2', o3', o4', o5', he1 ▸ q1', he1 ▸ q2', he1 ▸ q3', he1 ▸ q4', he1 ▸ q5'⟩
          refine N.tn ⟨⟨b9, b10, a1, c1, rs, a2, c2, ns, a3, c3, ms, a4, c4, is, a5, c5, es, f1, d1, rs2, f2, d2, ns2, f3, d3, ms2, f4, d4, is2, f5, d5, es2, M4⟩, ⟨rfl, rfl, rfl, rfl, rfl, rfl, rfl, trivial⟩, ?_, hp5, hp5', hl3.trans hl4⟩
          (try dsimp only); exact Go.SX.Ent.go
        · refine GQ.a ?_
          refine Q.al (fun b9 => ?_)
          refine Q.r ?_; (repeat (intro b1; refine Q.r ?_))
          repeat (first | refine D.endA ?_ | refine Q.dp rfl rfl rfl ?_ | refine Q.dy rfl rfl rfl ?_ | refine D.end_ ?_ | refine Q.endH ?_ | (refine D.e rfl rfl rfl ?_; (first | refine S.gskip1 rfl ?_ | refine S.gskip rfl ?_ | refine S.y (Y.gskipU rfl) ?_); refine opsS_nil ?_; refine N.tn ?_))
          refine D.e rfl rfl rfl ?_
          refine S.crg x (args := [.pointer (some ⟨x, 0, none⟩), .int .i64 o.fr, n1.val]) rfl (RgDo_spec n1 M3 x j o.fr _ hw (by omega) (by omega) (hn1.mono (hl2.trans hl3)) hN1 hoc1 hua1) ?_
          rintro _ _ ⟨f1, d1, rs2, f2, d2, ns2, f3, d3, ms2, f4, d4, is2, f5, d5, es2, M4, rfl, hl4, ⟨o1', o2', o3', o4', o5'⟩, ⟨q1', q2', q3', q4', q5'⟩, rfl⟩
          refine opsS_gm p hl4 ?_
          refine Q.r ?_; (repeat (intro b1; refine Q.r ?_))
          repeat (first | refine D.endA ?_ | refine Q.dp rfl rfl rfl ?_ | refine Q.dy rfl rfl rfl ?_ | refine D.end_ ?_ | refine Q.endH ?_ | (refine D.e rfl rfl rfl ?_; (first | refine S.gskip1 rfl ?_ | refine S.gskip rfl ?_ | refine S.y (Y.gskipU rfl) ?_); refine opsS_nil ?_; refine N.tn ?_))
          refine D.e rfl rfl rfl ?_
          refine Q.r ?_; (repeat (intro b1; refine Q.r ?_))
          repeat (first | refine D.endA ?_ | refine Q.dp rfl rfl rfl ?_ | refine Q.dy rfl rfl rfl ?_ | refine D.end_ ?_ | refine Q.endH ?_ | (refine D.e rfl rfl rfl ?_; (first | refine S.gskip1 rfl ?_ | refine S.gskip rfl ?_ | refine S.y (Y.gskipU rfl) ?_); refine opsS_nil ?_; refine N.tn ?_))
          refine D.e rfl rfl rfl ?_
          refine Q.r ?_; (repeat (intro b1; refine Q.r ?_))
          repeat (first | refine D.endA ?_ | refine Q.dp rfl rfl rfl ?_ | refine Q.dy rfl rfl rfl ?_ | refine D.end_ ?_ | refine Q.endH ?_ | (refine D.e rfl rfl rfl ?_; (first | refine S.gskip1 rfl ?_ | refine S.gskip rfl ?_ | refine S.y (Y.gskipU rfl) ?_); refine opsS_nil ?_; refine N.tn ?_))
          repeat (first | refine D.endA ?_ | refine Q.dp rfl rfl rfl ?_ | refine Q.dy rfl rfl rfl ?_ | refine D.end_ ?_ | refine Q.endH ?_ | (refine D.e rfl rfl rfl ?_; (first | refine S.gskip1 rfl ?_ | refine S.gskip rfl ?_ | refine S.y (Y.gskipU rfl) ?_); refine opsS_nil ?_; refine N.tn ?_))
          have hp5 : P5 M4 (planG j o.fr o.n.abs.few) a1 rs a2 ns a3 ms a4 is a5 es := ⟨o1.mono hl4, o2.mono hl4, o3.mono hl4, o4.mono hl4, o5.mono hl4, e2 ▸ q1, e2 ▸ q2, e2 ▸ q3, e2 ▸ q4, e2 ▸ q5⟩
          have hp5' : P5 M4 (planG j o.fr o.n.abs.few) f1 rs2 f2 ns2 f3 ms2 f4 is2 f5 es2 := ⟨o1', o2', o3', o4', o5', he1 ▸ q1', he1 ▸ q2', he1 ▸ q3', he1 ▸ q4', he1 ▸ q5'⟩
          refine N.tn ⟨⟨b9, b10, a1, c1, rs, a2, c2, ns, a3, c3, ms, a4, c4, is, a5, c5, es, f1, d1, rs2, f2, d2, ns2, f3, d3, ms2, f4, d4, is2, f5, d5, es2, M4⟩, ⟨rfl, rfl, rfl, rfl, rfl, rfl, rfl, trivial⟩, ?_, hp5, hp5', hl3.trans hl4⟩
          (try dsimp only); exact Go.SX.Ent.go
    · refine GQ.a ?_
      refine Q.al (fun b9 => ?_)
      refine Q.r ?_; (repeat (intro b1; refine Q.r ?_))
      repeat (first | refine D.endA ?_ | refine Q.dp rfl rfl rfl ?_ | refine Q.dy rfl rfl rfl ?_ | refine D.end_ ?_ | refine Q.endH ?_ | (refine D.e rfl rfl rfl ?_; (first | refine S.gskip1 rfl ?_ | refine S.gskip rfl ?_ | refine S.y (Y.gskipU rfl) ?_); refine opsS_nil ?_; refine N.tn ?_))
      refine D.two 4 11 [99999, 0, 0, 0] [4, 9, 12, 13] (by kernel_rfl) rfl rfl rfl rfl (by kernel_rfl) (by kernel_rfl) ?_ ?_
      · refine S.cg p (args := [ptrG p, .int .i64 o.fr, n2.val]) rfl (GPlan_spec n2 M2 p j o.fr _ hb hn2 hN2 (hT.mono hM2) hu2.kind) ?_
        rintro _ _ ⟨a1, c1, rs, a2, c2, ns, a3, c3, ms, a4, c4, is, a5, c5, es, M3, rfl, hl3, ⟨o1, o2, o3, o4, o5⟩, ⟨q1, q2, q3, q4, q5⟩, rfl⟩
        refine opsS_rgm x hl3 ?_
        refine Q.r ?_; (repeat (intro b1; refine Q.r ?_))
        repeat (first | refine D.endA ?_ | refine Q.dp rfl rfl rfl ?_ | refine Q.dy rfl rfl rfl ?_ | refine D.end_ ?_ | refine Q.endH ?_ | (refine D.e rfl rfl rfl ?_; (first | refine S.gskip1 rfl ?_ | refine S.gskip rfl ?_ | refine S.y (Y.gskipU rfl) ?_); refine opsS_nil ?_; refine N.tn ?_))
        refine D.two 9 11 [11, 12, 13] [9, 12, 13] (by kernel_rfl) rfl rfl rfl rfl (by kernel_rfl) (by kernel_rfl) ?_ ?_
        · refine S.crg x (args := [.pointer (some ⟨x, 0, none⟩), .int .i64 o.fr, n1.val]) rfl (RgDo_spec n1 M3 x j o.fr _ hw (by omega) (by omega) (hn1.mono (hl2.trans hl3)) hN1 hoc1 hua1) ?_
          rintro _ _ ⟨f1, d1, rs2, f2, d2, ns2, f3, d3, ms2, f4, d4, is2, f5, d5, es2, M4, rfl, hl4, ⟨o1', o2', o3', o4', o5'⟩, ⟨q1', q2', q3', q4', q5'⟩, rfl⟩
          refine opsS_gm p hl4 ?_
          refine Q.r ?_; (repeat (intro b1; refine Q.r ?_))
          repeat (first | refine D.endA ?_ | refine Q.dp rfl rfl rfl ?_ | refine Q.dy rfl rfl rfl ?_ | refine D.end_ ?_ | refine Q.endH ?_ | (refine D.e rfl rfl rfl ?_; (first | refine S.gskip1 rfl ?_ | refine S.gskip rfl ?_ | refine S.y (Y.gskipU rfl) ?_); refine opsS_nil ?_; refine N.tn ?_))
          refine D.e rfl rfl rfl ?_
          refine GQ.a ?_
          refine Q.al (fun b10 => ?_)
          refine Q.r ?_; (repeat (intro b1; refine Q.r ?_))
          repeat (first | refine D.endA ?_ | refine Q.dp rfl rfl rfl ?_ | refine Q.dy rfl rfl rfl ?_ | refine D.end_ ?_ | refine Q.endH ?_ | (refine D.e rfl rfl rfl ?_; (first | refine S.gskip1 rfl ?_ | refine S.gskip rfl ?_ | refine S.y (Y.gskipU rfl) ?_); refine opsS_nil ?_; refine N.tn ?_))
          refine D.e rfl rfl rfl ?_
          refine Q.r ?_; (repeat (intro b1; refine Q.r ?_))
          repeat (first | refine D.endA ?_ | refine Q.dp rfl rfl rfl ?_ | refine Q.dy rfl rfl rfl ?_ | refine D.end_ ?_ | refine Q.endH ?_ | (refine D.e rfl rfl rfl ?_; (first | refine S.gskip1 rfl ?_ | refine S.gskip rfl ?_ | refine S.y (Y.gskipU rfl) ?_); refine opsS_nil ?_; refine N.tn ?_))
          refine D.e rfl rfl rfl ?_
          refine Q.r ?_; (repeat (intro b1; refine Q.r ?_))
          repeat (first | refine D.endA ?_ | refine Q.dp rfl rfl rfl ?_ | refine Q.dy rfl rfl rfl ?_ | refine D.end_ ?_ | refine Q.endH ?_ | (refine D.e rfl rfl rfl ?_; (first | refine S.gskip1 rfl ?_ | refine S.gskip rfl ?_ | refine S.y (Y.gskipU rfl) ?_); refine opsS_nil ?_; refine N.tn ?_))
          repeat (first | refine D.endA ?_ | refine Q.dp rfl rfl rfl ?_ | refine Q.dy rfl rfl rfl ?_ | refine D.end_ ?_ | refine Q.endH ?_ | (refine D.e rfl rfl rfl ?_; (first | refine S.gskip1 rfl ?_ | refine S.gskip rfl ?_ | refine S.y (Y.gskipU rfl) ?_); refine opsS_nil ?_; refine N.tn ?_))
          have hp5 : P5 M4 (planG j o.fr o.n.abs.few) a1 rs a2 ns a3 ms a4 is a5 es := ⟨o1.mono hl4, o2.mono hl4, o3.mono hl4, o4.mono hl4, o5.mono hl4, e2 ▸ q1, e2 ▸ q2, e2 ▸ q3, e2 ▸ q4, e2 ▸ q5⟩
          have hp5' : P5 M4 (planG j o.fr o.n.abs.few) f1 rs2 f2 ns2 f3 ms2 f4 is2 f5 es2 := ⟨o1', o2', o3', o4', o5', he1 ▸ q1', he1 ▸ q2', he1 ▸ q3', he1 ▸ q4', he1 ▸ q5'⟩
          refine N.tn ⟨⟨b9, b10, a1, c1, rs, a2, c2, ns, a3, c3, ms, a4, c4, is, a5, c5, es, f1, d1, rs2, f2, d2, ns2, f3, d3, ms2, f4, d4, is2, f5, d5, es2, M4⟩, ⟨rfl, rfl, rfl, rfl, rfl, rfl, rfl, trivial⟩, ?_, hp5, hp5', hl3.trans hl4⟩
          (try dsimp only); exact Go.SX.Ent.go
        · refine GQ.a ?_
          refine Q.al (fun b10 => ?_)
          refine Q.r ?_; (repeat (intro b1; refine Q.r ?_))
          repeat (first | refine D.endA ?_ | refine Q.dp rfl rfl rfl ?_ | refine Q.dy rfl rfl rfl ?_ | refine D.end_ ?_ | refine Q.endH ?_ | (refine D.e rfl rfl rfl ?_; (first | refine S.gskip1 rfl ?_ | refine S.gskip rfl ?_ | refine S.y (Y.gskipU rfl) ?_); refine opsS_nil ?_; refine N.tn ?_))
          refine D.e rfl rfl rfl ?_
          refine S.crg x (args := [.pointer (some ⟨x, 0, none⟩), .int .i64 o.fr, n1.val]) rfl (RgDo_spec n1 M3 x j o.fr _ hw (by omega) (by omega) (hn1.mono (hl2.trans hl3)) hN1 hoc1 hua1) ?_
          rintro _ _ ⟨f1, d1, rs2, f2, d2, ns2, f3, d3, ms2, f4, d4, is2, f5, d5, es2, M4, rfl, hl4, ⟨o1', o2', o3', o4', o5'⟩, ⟨q1', q2', q3', q4', q5'⟩, rfl⟩
          refine opsS_gm p hl4 ?_
          refine Q.r ?_; (repeat (intro b1; refine Q.r ?_))
          repeat (first | refine D.endA ?_ | refine Q.dp rfl rfl rfl ?_ | refine Q.dy rfl rfl rfl ?_ | refine D.end_ ?_ | refine Q.endH ?_ | (refine D.e rfl rfl rfl ?_; (first | refine S.gskip1 rfl ?_ | refine S.gskip rfl ?_ | refine S.y (Y.gskipU rfl) ?_); refine opsS_nil ?_; refine N.tn ?_))
          refine D.e rfl rfl rfl ?_
          refine Q.r ?_; (repeat (intro b1; refine Q.r ?_))
          repeat (first | refine D.endA ?_ | refine Q.dp rfl rfl rfl ?_ | refine Q.dy rfl rfl rfl ?_ | refine D.end_ ?_ | refine Q.endH ?_ | (refine D.e rfl rfl rfl ?_; (first | refine S.gskip1 rfl ?_ | refine S.gskip rfl ?_ | refine S.y (Y.gskipU rfl) ?_); refine opsS_nil ?_; refine N.tn ?_))
          refine D.e rfl rfl rfl ?_
          refine Q.r ?_; (repeat (intro b1; refine Q.r ?_))
          repeat (first | refine D.endA ?_ | refine Q.dp rfl rfl rfl ?_ | refine Q.dy rfl rfl rfl ?_ | refine D.end_ ?_ | refine Q.endH ?_ | (refine D.e rfl rfl rfl ?_; (first | refine S.gskip1 rfl ?_ | refine S.gskip rfl ?_ | refine S.y (Y.gskipU rfl) ?_); refine opsS_nil ?_; refine N.tn ?_))
          repeat (first | refine D.endA ?_ | refine Q.dp rfl rfl rfl ?_ | refine Q.dy rfl rfl rfl ?_ | refine D.end_ ?_ | refine Q.endH ?_ | (refine D.e rfl rfl rfl ?_; (first | refine S.gskip1 rfl ?_ | refine S.gskip rfl ?_ | refine S.y (Y.gskipU rfl) ?_); refine opsS_nil ?_; refine N.tn ?_))
          have hp5 : P5 M4 (planG j o.fr o.n.abs.few) a1 rs a2 ns a3 ms a4 is a5 es := ⟨o1.mono hl4, o2.mono hl4, o3.mono hl4, o4.mono hl4, o5.mono hl4, e2 ▸ q1, e2 ▸ q2, e2 ▸ q3, e2 ▸ q4, e2 ▸ q5⟩
          have hp5' : P5 M4 (planG j o.fr o.n.abs.few) f1 rs2 f2 ns2 f3 ms2 f4 is2 f5 es2 := ⟨o1', o2', o3', o4', o5', he1 ▸ q1', he1 ▸ q2', he1 ▸ q3', he1 ▸ q4', he1 ▸ q5'⟩
          refine N.tn ⟨⟨b9, b10, a1, c1, rs, a2, c2, ns, a3, c3, ms, a4, c4, is, a5, c5, es, f1, d1, rs2, f2, d2, ns2, f3, d3, ms2, f4, d4, is2, f5, d5, es2, M4⟩, ⟨rfl, rfl, rfl, rfl, rfl, rfl, rfl, trivial⟩, ?_, hp5, hp5', hl3.trans hl4⟩
          (try dsimp only); exact Go.SX.Ent.go
      · refine GQ.a ?_
        refine Q.al (fun b10 => ?_)
        refine Q.r ?_; (repeat (intro b1; refine Q.r ?_))
        repeat (first | refine D.endA ?_ | refine Q.dp rfl rfl rfl ?_ | refine Q.dy rfl rfl rfl ?_ | refine D.end_ ?_ | refine Q.endH ?_ | (refine D.e rfl rfl rfl ?_; (first | refine S.gskip1 rfl ?_ | refine S.gskip rfl ?_ | refine S.y (Y.gskipU rfl) ?_); refine opsS_nil ?_; refine N.tn ?_))
        refine D.e rfl rfl rfl ?_
        refine S.cg p (args := [ptrG p, .int .i64 o.fr, n2.val]) rfl (GPlan_spec n2 M2 p j o.fr _ hb hn2 hN2 (hT.mono hM2) hu2.kind) ?_
        rintro _ _ ⟨a1, c1, rs, a2, c2, ns, a3, c3, ms, a4, c4, is, a5, c5, es, M3, rfl, hl3, ⟨o1, o2, o3, o4, o5⟩, ⟨q1, q2, q3, q4, q5⟩, rfl⟩
        refine opsS_rgm x hl3 ?_
        refine Q.r ?_; (repeat (intro b1; refine Q.r ?_))
        repeat (first | refine D.endA ?_ | refine Q.dp rfl rfl rfl ?_ | refine Q.dy rfl rfl rfl ?_ | refine D.end_ ?_ | refine Q.endH ?_ | (refine D.e rfl rfl rfl ?_; (first | refine S.gskip1 rfl ?_ | refine S.gskip rfl ?_ | refine S.y (Y.gskipU rfl) ?_); refine opsS_nil ?_; refine N.tn ?_))
        refine D.e rfl rfl rfl ?_
        refine S.crg x (args := [.pointer (some ⟨x, 0, none⟩), .int .i64 o.fr, n1.val]) rfl (RgDo_spec n1 M3 x j o.fr _ hw (by omega) (by omega) (hn1.mono (hl2.trans hl3)) hN1 hoc1 hua1) ?_
        rintro _ _ ⟨f1, d1, rs2, f2, d2, ns2, f3, d3, ms2, f4, d4, is2, f5, d5, es2, M4, rfl, hl4, ⟨o1', o2', o3', o4', o5'⟩, ⟨q1', q2', q3', q4', q5'⟩, rfl⟩
        refine opsS_gm p hl4 ?_
        refine Q.r ?_; (repeat (intro b1; refine Q.r ?_))
        repeat (first | refine D.endA ?_ | refine Q.dp rfl rfl rfl ?_ | refine Q.dy rfl rfl rfl ?_ | refine D.end_ ?_ | refine Q.endH ?_ | (refine D.e rfl rfl rfl ?_; (first | refine S.gskip1 rfl ?_ | refine S.gskip rfl ?_ | refine S.y (Y.gskipU rfl) ?_); refine opsS_nil ?_; refine N.tn ?_))
        refine D.e rfl rfl rfl ?_
        refine Q.r ?_; (repeat (intro b1; refine Q.r ?_))
        repeat (first | refine D.endA ?_ | refine Q.dp rfl rfl rfl ?_ | refine Q.dy rfl rfl rfl ?_ | refine D.end_ ?_ | refine Q.endH ?_ | (refine D.e rfl rfl rfl ?_; (first | refine S.gskip1 rfl ?_ | refine S.gskip rfl ?_ | refine S.y (Y.gskipU rfl) ?_); refine opsS_nil ?_; refine N.tn ?_))
        refine D.e rfl rfl rfl ?_
        refine Q.r ?_; (repeat (intro b1; refine Q.r ?_))
        repeat (first | refine D.endA ?_ | refine Q.dp rfl rfl rfl ?_ | refine Q.dy rfl rfl rfl ?_ | refine D.end_ ?_ | refine Q.endH ?_ | (refine D.e rfl rfl rfl ?_; (first | refine S.gskip1 rfl ?_ | refine S.gskip rfl ?_ | refine S.y (Y.gskipU rfl) ?_); refine opsS_nil ?_; refine N.tn ?_))
        repeat (first | refine D.endA ?_ | refine Q.dp rfl rfl rfl ?_ | refine Q.dy rfl rfl rfl ?_ | refine D.end_ ?_ | refine Q.endH ?_ | (refine D.e rfl rfl rfl ?_; (first | refine S.gskip1 rfl ?_ | refine S.gskip rfl ?_ | refine S.y (Y.gskipU rfl) ?_); refine opsS_nil ?_; refine N.tn ?_))
        have hp5 : P5 M4 (planG j o.fr o.n.abs.few) a1 rs a2 ns a3 ms a4 is a5 es := ⟨o1.mono hl4, o2.mono hl4, o3.mono hl4, o4.mono hl4, o5.mono hl4, e2 ▸ q1, e2 ▸ q2, e2 ▸ q3, e2 ▸ q4, e2 ▸ q5⟩
        have hp5' : P5 M4 (planG j o.fr o.n.abs.few) f1 rs2 f2 ns2 f3 ms2 f4 is2 f5 es2 := ⟨o1', o2', o3', o4', o5', he1 ▸ q1', he1 ▸ q2', he1 ▸ q3', he1 ▸ q4', he1 ▸ q5'⟩
        refine N.tn ⟨⟨b9, b10, a1, c1, rs, a2, c2, ns, a3, c3, ms, a4, c4, is, a5, c5, es, f1, d1, rs2, f2, d2, ns2, f3, d3, ms2, f4, d4, is2, f5, d5, es2, M4⟩, ⟨rfl, rfl, rfl, rfl, rfl, rfl, rfl, trivial⟩, ?_, hp5, hp5', hl3.trans hl4⟩
        (try dsimp only); exact Go.SX.Ent.go
    · refine GQ.a ?_
      refine Q.al (fun b10 => ?_)
      refine Q.r ?_; (repeat (intro b1; refine Q.r ?_))
      repeat (first | refine D.endA ?_ | refine Q.dp rfl rfl rfl ?_ | refine Q.dy rfl rfl rfl ?_ | refine D.end_ ?_ | refine Q.endH ?_ | (refine D.e rfl rfl rfl ?_; (first | refine S.gskip1 rfl ?_ | refine S.gskip rfl ?_ | refine S.y (Y.gskipU rfl) ?_); refine opsS_nil ?_; refine N.tn ?_))
      refine D.two 4 10 [99999, 0, 0, 0] [4, 9, 12, 13] (by kernel_rfl) rfl rfl rfl rfl (by kernel_rfl) (by kernel_rfl) ?_ ?_
      · refine S.cg p (args := [ptrG p, .int .i64 o.fr, n2.val]) rfl (GPlan_spec n2 M2 p j o.fr _ hb hn2 hN2 (hT.mono hM2) hu2.kind) ?_
        rintro _ _ ⟨a1, c1, rs, a2, c2, ns, a3, c3, ms, a4, c4, is, a5, c5, es, M3, rfl, hl3, ⟨o1, o2, o3, o4, o5⟩, ⟨q1, q2, q3, q4, q5⟩, rfl⟩
        refine opsS_rgm x hl3 ?_
        refine Q.r ?_; (repeat (intro b1; refine Q.r ?_))
        repeat (first | refine D.endA ?_ | refine Q.dp rfl rfl rfl ?_ | refine Q.dy rfl rfl rfl ?_ | refine D.end_ ?_ | refine Q.endH ?_ | (refine D.e rfl rfl rfl ?_; (first | refine S.gskip1 rfl ?_ | refine S.gskip rfl ?_ | refine S.y (Y.gskipU rfl) ?_); refine opsS_nil ?_; refine N.tn ?_))
        refine D.two 9 10 [10, 12, 13] [9, 12, 13] (by kernel_rfl) rfl rfl rfl rfl (by kernel_rfl) (by kernel_rfl) ?_ ?_
        · refine S.crg x (args := [.pointer (some ⟨x, 0, none⟩), .int .i64 o.fr, n1.val]) rfl (RgDo_spec n1 M3 x j o.fr _ hw (by omega) (by omega) (hn1.mono (hl2.trans hl3)) hN1 hoc1 hua1) ?_
          rintro _ _ ⟨f1, d1, rs2, f2, d2, ns2, f3, d3, ms2, f4, d4, is2, f5, d5, es2, M4, rfl, hl4, ⟨o1', o2', o3', o4', o5'⟩, ⟨q1', q2', q3', q4', q5'⟩, rfl⟩
          refine opsS_gm p hl4 ?_
          refine Q.r ?_; (repeat (intro b1; refine Q.r ?_))
          repeat (first | refine D.endA ?_ | refine Q.dp rfl rfl rfl ?_ | refine Q.dy rfl rfl rfl ?_ | refine D.end_ ?_ | refine Q.endH ?_ | (refine D.e rfl rfl rfl ?_; (first | refine S.gskip1 rfl ?_ | refine S.gskip rfl ?_ | refine S.y (Y.gskipU rfl) ?_); refine opsS_nil ?_; refine N.tn ?_))
          refine D.e rfl rfl rfl ?_
          refine GQ.a ?_
          refine Q.al (fun b9 => ?_)
          refine Q.r ?_; (repeat (intro b1; refine Q.r ?_))
          repeat (first | refine D.endA ?_ | refine Q.dp rfl rfl rfl ?_ | refine Q.dy rfl rfl rfl ?_ | refine D.end_ ?_ | refine Q.endH ?_ | (refine D.e rfl rfl rfl ?_; (first | refine S.gskip1 rfl ?_ | refine S.gskip rfl ?_ | refine S.y (Y.gskipU rfl) ?_); refine opsS_nil ?_; refine N.tn ?_))
          refine D.e rfl rfl rfl ?_
          refine Q.r ?_; (repeat (intro b1; refine Q.r ?_))
          repeat (first | refine D.endA ?_ | refine Q.dp rfl rfl rfl ?_ | refine Q.dy rfl rfl rfl ?_ | refine D.end_ ?_ | refine Q.endH ?_ | (refine D.e rfl rfl rfl ?_; (first | refine S.gskip1 rfl ?_ | refine S.gskip rfl ?_ | refine S.y (Y.gskipU rfl) ?_); refine opsS_nil ?_; refine N.tn ?_))
          refine D.e rfl rfl rfl ?_
          refine Q.r ?_; (repeat (intro b1; refine Q.r ?_))
          repeat (first | refine D.endA ?_ | refine Q.dp rfl rfl rfl ?_ | refine Q.dy rfl rfl rfl ?_ | refine D.end_ ?_ | refine Q.endH ?_ | (refine D.e rfl rfl rfl ?_; (first | refine S.gskip1 rfl ?_ | refine S.gskip rfl ?_ | refine S.y (Y.gskipU rfl) ?_); refine opsS_nil ?_; refine N.tn ?_))
          repeat (first | refine D.endA ?_ | refine Q.dp rfl rfl rfl ?_ | refine Q.dy rfl rfl rfl ?_ | refine D.end_ ?_ | refine Q.endH ?_ | (refine D.e rfl rfl rfl ?_; (first | refine S.gskip1 rfl ?_ | refine S.gskip rfl ?_ | refine S.y (Y.gskipU rfl) ?_); refine opsS_nil ?_; refine N.tn ?_))
          have hp5 : P5 M4 (planG j o.fr o.n.abs.few) a1 rs a2 ns a3 ms a4 is a5 es := ⟨o1.mono hl4, o2.mono hl4, o3.mono hl4, o4.mono hl4, o5.mono hl4, e2 ▸ q1, e2 ▸ q2, e2 ▸ q3, e2 ▸ q4, e2 ▸ q5⟩
          have hp5' : P5 M4 (planG j o.fr o.n.abs.few) f1 rs2 f2 ns2 f3 ms2 f4 is2 f5 es2 := ⟨o1', o2', o3', o4', o5', he1 ▸ q1', he1 ▸ q2', he1 ▸ q3', he1 ▸ q4', he1 ▸ q5'⟩
          refine N.tn ⟨⟨b9, b10, a1, c1, rs, a2, c2, ns, a3, c3, ms, a4, c4, is, a5, c5, es, f1, d1, rs2, f2, d2, ns2, f3, d3, ms2, f4, d4, is2, f5, d5, es2, M4⟩, ⟨rfl, rfl, rfl, rfl, rfl, rfl, rfl, trivial⟩, ?_, hp5, hp5', hl3.trans hl4⟩
          (try dsimp only); exact Go.SX.Ent.go
        · refine GQ.a ?_
          refine Q.al (fun b9 => ?_)
          refine Q.r ?_; (repeat (intro b1; refine Q.r ?_))
          repeat (first | refine D.endA ?_ | refine Q.dp rfl rfl rfl ?_ | refine Q.dy rfl rfl rfl ?_ | refine D.end_ ?_ | refine Q.endH ?_ | (refine D.e rfl rfl rfl ?_; (first | refine S.gskip1 rfl ?_ | refine S.gskip rfl ?_ | refine S.y (Y.gskipU rfl) ?_); refine opsS_nil ?_; refine N.tn ?_))
          refine D.e rfl rfl rfl ?_
          refine S.crg x (args := [.pointer (some ⟨x, 0, none⟩), .int .i64 o.fr, n1.val]) rfl (RgDo_spec n1 M3 x j o.fr _ hw (by omega) (by omega) (hn1.mono (hl2.trans hl3)) hN1 hoc1 hua1) ?_
          rintro _ _ ⟨f1, d1, rs2, f2, d2, ns2, f3, d3, ms2, f4, d4, is2, f5, d5, es2, M4, rfl, hl4, ⟨o1', o2', o3', o4', o5'⟩, ⟨q1', q2', q3', q4', q5'⟩, rfl⟩
          refine opsS_gm p hl4 ?_
          refine Q.r ?_; (repeat (intro b1; refine Q.r ?_))
          repeat (first | refine D.endA ?_ | refine Q.dp rfl rfl rfl ?_ | refine Q.dy rfl rfl rfl ?_ | refine D.end_ ?_ | refine Q.endH ?_ | (refine D.e rfl rfl rfl ?_; (first | refine S.gskip1 rfl ?_ | refine S.gskip rfl ?_ | refine S.y (Y.gskipU rfl) ?_); refine opsS_nil ?_; refine N.tn ?_))
          refine D.e rfl rfl rfl ?_
          refine Q.r ?_; (repeat (intro b1; refine Q.r ?_))
          repeat (first | refine D.endA ?_ | refine Q.dp rfl rfl rfl ?_ | refine Q.dy rfl rfl rfl ?_ | refine D.end_ ?_ | refine Q.endH ?_ | (refine D.e rfl rfl rfl ?_; (first | refine S.gskip1 rfl ?_ | refine S.gskip rfl ?_ | refine S.y (Y.gskipU rfl) ?_); refine opsS_nil ?_; refine N.tn ?_))
          refine D.e rfl rfl rfl ?_
          refine Q.r ?_; (repeat (intro b1; refine Q.r ?_))
          repeat (first | refine D.endA ?_ | refine Q.dp rfl rfl rfl ?_ | refine Q.dy rfl rfl rfl ?_ | refine D.end_ ?_ | refine Q.endH ?_ | (refine D.e rfl rfl rfl ?_; (first | refine S.gskip1 rfl ?_ | refine S.gskip rfl ?_ | refine S.y (Y.gskipU rfl) ?_); refine opsS_nil ?_; refine N.tn ?_))
          repeat (first | refine D.endA ?_ | refine Q.dp rfl rfl rfl ?_ | refine Q.dy rfl rfl rfl ?_ | refine D.end_ ?_ | refine Q.endH ?_ | (refine D.e rfl rfl rfl ?_; (first | refine S.gskip1 rfl ?_ | refine S.gskip rfl ?_ | refine S.y (Y.gskipU rfl) ?_); refine opsS_nil ?_; refine N.tn ?_))
          have hp5 : P5 M4 (planG j o.fr o.n.abs.few) a1 rs a2 ns a3 ms a4 is a5 es := ⟨o1.mono hl4, o2.mono hl4, o3.mono hl4, o4.mono hl4, o5.mono hl4, e2 ▸ q1, e2 ▸ q2, e2 ▸ q3, e2 ▸ q4, e2 ▸ q5⟩
          have hp5' : P5 M4 (planG j o.fr o.n.abs.few) f1 rs2 f2 ns2 f3 ms2 f4 is2 f5 es2 := ⟨o1', o2', o3', o4', o5', he1 ▸ q1', he1 ▸ q2', he1 ▸ q3', he1 ▸ q4', he1 ▸ q5'⟩
          refine N.tn ⟨⟨b9, b10, a1, c1, rs, a2, c2, ns, a3, c3, ms, a4, c4, is, a5, c5, es, f1, d1, rs2, f2, d2, ns2, f3, d3, ms2, f4, d4, is2, f5, d5, es2, M4⟩, ⟨rfl, rfl, rfl, rfl, rfl, rfl, rfl, trivial⟩, ?_, hp5, hp5', hl3.trans hl4⟩
          (try dsimp only); exact Go.SX.Ent.go
      · refine GQ.a ?_
        refine Q.al (fun b9 => ?_)
        refine Q.r ?_; (repeat (intro b1; refine Q.r ?_))
        repeat (first | refine D.endA ?_ | refine Q.dp rfl rfl rfl ?_ | refine Q.dy rfl rfl rfl ?_ | refine D.end_ ?_ | refine Q.endH ?_ | (refine D.e rfl rfl rfl ?_; (first | refine S.gskip1 rfl ?_ | refine S.gskip rfl ?_ | refine S.y (Y.gskipU rfl) ?_); refine opsS_nil ?_; refine N.tn ?_))
        refine D.e rfl rfl rfl ?_
        refine S.cg p (args := [ptrG p, .int .i64 o.fr, n2.val]) rfl (GPlan_spec n2 M2 p j o.fr _ hb hn2 hN2 (hT.mono hM2) hu2.kind) ?_
        rintro _ _ ⟨a1, c1, rs, a2, c2, ns, a3, c3, ms, a4, c4, is, a5, c5, es, M3, rfl, hl3, ⟨o1, o2, o3, o4, o5⟩, ⟨q1, q2, q3, q4, q5⟩, rfl⟩
        refine opsS_rgm x hl3 ?_
        refine Q.r ?_; (repeat (intro b1; refine Q.r ?_))
        repeat (first | refine D.endA ?_ | refine Q.dp rfl rfl rfl ?_ | refine Q.dy rfl rfl rfl ?_ | refine D.end_ ?_ | refine Q.endH ?_ | (refine D.e rfl rfl rfl ?_; (first | refine S.gskip1 rfl ?_ | refine S.gskip rfl ?_ | refine S.y (Y.gskipU rfl) ?_); refine opsS_nil ?_; refine N.tn ?_))
        refine D.e rfl rfl rfl ?_
        refine S.crg x (args := [.pointer (some ⟨x, 0, none⟩), .int .i64 o.fr, n1.val]) rfl (RgDo_spec n1 M3 x j o.fr _ hw (by omega) (by omega) (hn1.mono (hl2.trans hl3)) hN1 hoc1 hua1) ?_
        rintro _ _ ⟨f1, d1, rs2, f2, d2, ns2, f3, d3, ms2, f4, d4, is2, f5, d5, es2, M4, rfl, hl4, ⟨o1', o2', o3', o4', o5'⟩, ⟨q1', q2', q3', q4', q5'⟩, rfl⟩
        refine opsS_gm p hl4 ?_
        refine Q.r ?_; (repeat (intro b1; refine Q.r ?_))
        repeat (first | refine D.endA ?_ | refine Q.dp rfl rfl rfl ?_ | refine Q.dy rfl rfl rfl ?_ | refine D.end_ ?_ | refine Q.endH ?_ | (refine D.e rfl rfl rfl ?_; (first | refine S.gskip1 rfl ?_ | refine S.gskip rfl ?_ | refine S.y (Y.gskipU rfl) ?_); refine opsS_nil ?_; refine N.tn ?_))
        refine D.e rfl rfl rfl ?_
        refine Q.r ?_; (repeat (intro b1; refine Q.r ?_))
        repeat (first | refine D.endA ?_ | refine Q.dp rfl rfl rfl ?_ | refine Q.dy rfl rfl rfl ?_ | refine D.end_ ?_ | refine Q.endH ?_ | (refine D.e rfl rfl rfl ?_; (first | refine S.gskip1 rfl ?_ | refine S.gskip rfl ?_ | refine S.y (Y.gskipU rfl) ?_); refine opsS_nil ?_; refine N.tn ?_))
        refine D.e rfl rfl rfl ?_
        refine Q.r ?_; (repeat (intro b1; refine Q.r ?_))
        repeat (first | refine D.endA ?_ | refine Q.dp rfl rfl rfl ?_ | refine Q.dy rfl rfl rfl ?_ | refine D.end_ ?_ | refine Q.endH ?_ | (refine D.e rfl rfl rfl ?_; (first | refine S.gskip1 rfl ?_ | refine S.gskip rfl ?_ | refine S.y (Y.gskipU rfl) ?_); refine opsS_nil ?_; refine N.tn ?_))
        repeat (first | refine D.endA ?_ | refine Q.dp rfl rfl rfl ?_ | refine Q.dy rfl rfl rfl ?_ | refine D.end_ ?_ | refine Q.endH ?_ | (refine D.e rfl rfl rfl ?_; (first | refine S.gskip1 rfl ?_ | refine S.gskip rfl ?_ | refine S.y (Y.gskipU rfl) ?_); refine opsS_nil ?_; refine N.tn ?_))
        have hp5 : P5 M4 (planG j o.fr o.n.abs.few) a1 rs a2 ns a3 ms a4 is a5 es := ⟨o1.mono hl4, o2.mono hl4, o3.mono hl4, o4.mono hl4, o5.mono hl4, e2 ▸ q1, e2 ▸ q2, e2 ▸ q3, e2 ▸ q4, e2 ▸ q5⟩
        have hp5' : P5 M4 (planG j o.fr o.n.abs.few) f1 rs2 f2 ns2 f3 ms2 f4 is2 f5 es2 := ⟨o1', o2', o3', o4', o5', he1 ▸ q1', he1 ▸ q2', he1 ▸ q3', he1 ▸ q4', he1 ▸ q5'⟩
        refine N.tn ⟨⟨b9, b10, a1, c1, rs, a2, c2, ns, a3, c3, ms, a4, c4, is, a5, c5, es, f1, d1, rs2, f2, d2, ns2, f3, d3, ms2, f4, d4, is2, f5, d5, es2, M4⟩, ⟨rfl, rfl, rfl, rfl, rfl, rfl, rfl, trivial⟩, ?_, hp5, hp5', hl3.trans hl4⟩
        (try dsimp only); exact Go.SX.Ent.go
  rintro ⟨b9, b10, a1, c1, rs, a2, c2, ns, a3, c3, ms, a4, c4, is, a5, c5, es, f1, d1, rs2, f2, d2, ns2, f3, d3, ms2, f4, d4, is2, f5, d5, es2, M3⟩ ⟨hp5, hp5', hl3⟩
  dsimp only at hp5 hp5' hl3 ⊢
  generalize hpl : planG j o.fr o.n.abs.few = pl at *
  have l1 := map_len hp5.er
  have l2 := map_len hp5.en
  have l3 := map_len hp5.em
  have l4 := map_len hp5.ei
  have l5 := map_len hp5.ee
  refine Q.r ?_; (repeat (intro b1; refine Q.r ?_))
  refine Q.dgo [true, true, true, true] [1, 3, 8] [] [0, 2, 1, 3, 4, 5, 6, 7, 8, 9, 10] ?_
  refine Q.rd ?_; (repeat (intro b1; refine Q.rd ?_))
  refine D.e rfl rfl rfl ?_
  refine S.cmG (args := [lP5 a1 c1 rs.length a2 c2 ns.length a3 c3 ms.length a4 c4 is.length a5 c5 es.length]) rfl (Lplan_spec a1 c1 rs a2 c2 ns a3 c3 ms a4 c4 is a5 c5 es M3 _ hp5.r hp5.n hp5.m hp5.i hp5.e (by omega) (by omega) (by omega) (by omega) (by omega)) ?_
  rintro _ _ ⟨g1, h1, g2, h2, g3, h3, g4, h4, g5, h5, rfl, rfl⟩
  refine opsS_abs g1 (fun N1 k1 z1 => ?_)
  refine opsS_abs g2 (fun N2 k2 z2 => ?_)
  refine opsS_abs g3 (fun N3 k3 z3 => ?_)
  refine opsS_abs g4 (fun N4 k4 z4 => ?_)
  refine opsS_abs g5 (fun N5 k5 z5 => ?_)
  have k45 := k5
  have k35 := k4.trans k45
  have k25 := k3.trans k35
  have k15 := k2.trans k25
  have k05 := k1.trans k15
  refine opsS_gm p k05 ?_
  refine opsS_rgm x k05 ?_
  have hq5 : P5 N5 pl g1 rs g2 ns g3 ms g4 is g5 es := ⟨⟨z1.mono k15, fun n hn => (hp5.r.2 n hn).mono k05⟩, ⟨z2.mono k25, fun n hn => (hp5.n.2 n hn).mono k05⟩, ⟨z3.mono k35, fun n hn => (hp5.m.2 n hn).mono k05⟩, ⟨z4.mono k45, fun n hn => (hp5.i.2 n hn).mono k05⟩, ⟨z5, fun n hn => (hp5.e.2 n hn).mono k05⟩, hp5.er, hp5.en, hp5.em, hp5.ei, hp5.ee⟩
  have hr5 := hp5.mono k05
  have hl25 := hl3.trans k05
  refine Q.r ?_; (repeat (intro b1; refine Q.r ?_))
  refine Q.rd ?_; (repeat (intro b1; refine Q.rd ?_))
  refine D.e rfl rfl rfl ?_
  refine S.cmG (args := [lP5 g1 h1 rs.length g2 h2 ns.length g3 h3 ms.length g4 h4 is.length g5 h5 es.length, lP5 f1 d1 rs2.length f2 d2 ns2.length f3 d3 ms2.length f4 d4 is2.length f5 d5 es2.length]) rfl (SamePlan15_spec g1 h1 rs g2 h2 ns g3 h3 ms g4 h4 is g5 h5 es f1 d1 rs2 f2 d2 ns2 f3 d3 ms2 f4 d4 is2 f5 d5 es2 N5 pl _ hq5 (hp5'.mono k05) hpn ⟨by omega, by omega, by omega, by omega, by omega⟩) ?_
  rintro _ _ ⟨rfl, rfl⟩
  refine Q.r ?_; (repeat (intro b1; refine Q.r ?_))
  refine Q.rd ?_; (repeat (intro b1; refine Q.rd ?_))
  refine D.e rfl rfl rfl ?_
  refine S.guard rfl ?_
  refine S.cr (args := [n2.val, n1.val]) rfl (Same12_spec n2 n1 _ (hn2.mono hl25).rd (hn1.mono (hl2.trans hl25)).rd hN2 hN1 he21) ?_
  rintro _ _ ⟨rfl, rfl⟩
  refine Q.r ?_; (repeat (intro b1; refine Q.r ?_))
  refine Q.rd ?_; (repeat (intro b1; refine Q.rd ?_))
  have hu1 : ∀ n ∈ rs, NumA n.abs ∧ OkN n := fun n hn => ⟨(hpn.r _ (hp5.er ▸ List.mem_map_of_mem hn)).1, OkN.of (hpn.r _ (hp5.er ▸ List.mem_map_of_mem hn)).2⟩
  have hu2' : ∀ n ∈ ns, NumA n.abs ∧ OkN n := fun n hn => ⟨(hpn.n _ (hp5.en ▸ List.mem_map_of_mem hn)).1, OkN.of (hpn.n _ (hp5.en ▸ List.mem_map_of_mem hn)).2⟩
  have hu4 : ∀ n ∈ is, NumA n.abs ∧ OkN n := fun n hn => ⟨(hpn.i _ (hp5.ei ▸ List.mem_map_of_mem hn)).1, OkN.of (hpn.i _ (hp5.ei ▸ List.mem_map_of_mem hn)).2⟩
  have hTN := hT2.mono hl25
  by_cases hcond : o.w = false ∧ 0 < rs.length
  · have hst : stepG j o.d o.fr o.n.abs.few o.w = appL j pl.inst := by
      unfold stepG stepL
      rw [if_neg h8, if_neg h9, if_neg h10, hpl, if_pos ⟨hcond.1, by omega⟩]
    rw [hst]
    have hrl := hcond.2
    have hww := hcond.1
    refine Q.r ?_; (repeat (intro b1; refine Q.r ?_))
    refine S.c3 (A := jdgH N5 p j) (B := rgH N5 x j) (C := roM N5) rfl (Lapply_spec a4 c4 is p x j N5 _ hr5.i hu4 hw (by omega) (by omega) hTN) ?_
    rintro _ _ ⟨M6, rfl, hl6, rfl⟩
    rw [hr5.ei]
    refine Q.r ?_; (repeat (intro b1; refine Q.r ?_))
    refine N.r1 (RV.tmp rfl RV.nil) ?_ ⟨M6, rfl, hM2.trans (hl25.trans hl6), rfl⟩
    exact Go.SX.Ent.go
  · have hst : stepG j o.d o.fr o.n.abs.few o.w = appL (appL j pl.rec_) pl.notes := by
      unfold stepG stepL
      rw [if_neg h8, if_neg h9, if_neg h10, hpl, if_neg (fun h => hcond ⟨h.1, by omega⟩)]
      exact List.foldl_append ..
    rw [hst]
    have hok1 := appL_ok (j := j) (l := rs.map NV.abs) hw (fun r hr => by obtain ⟨w, hw, rfl⟩ := List.mem_map.1 hr; exact (hu1 w hw).1)
    rw [hr5.er] at hok1
    obtain ⟨hj1, hj2, hj3, _⟩ := hok1
    by_cases hww : o.w = false
    · have hrl : ¬ 0 < rs.length := fun h => hcond ⟨hww, h⟩
      refine Q.r ?_; (repeat (intro b1; refine Q.r ?_))
      refine S.c3 (A := jdgH N5 p j) (B := rgH N5 x j) (C := roM N5) rfl (Lapply_spec a1 c1 rs p x j N5 _ hr5.r hu1 hw (by omega) (by omega) hTN) ?_
      rintro _ _ ⟨M6, rfl, hl6, rfl⟩
      rw [hr5.er]
      refine Q.r ?_; (repeat (intro b1; refine Q.r ?_))
      first | refine S.c3 (A := jdgH M6 p (appL j pl.rec_)) (B := rgH M6 x (appL j pl.rec_)) (C := roM M6) rfl (Lapply_spec a2 c2 ns p x (appL j pl.rec_) M6 _ (hr5.n.mono hl6) hu2' hj1 (by omega) (by omega) (hTN.mono hl6)) ?_ | (refine S.guard rfl ?_; refine S.c3 (A := jdgH M6 p (appL j pl.rec_)) (B := rgH M6 x (appL j pl.rec_)) (C := roM M6) rfl (Lapply_spec a2 c2 ns p x (appL j pl.rec_) M6 _ (hr5.n.mono hl6) hu2' hj1 (by omega) (by omega) (hTN.mono hl6)) ?_)
      rintro _ _ ⟨M7, rfl, hl7, rfl⟩
      rw [hr5.en]
      refine Q.r ?_; (repeat (intro b1; refine Q.r ?_))
      refine N.r1 (RV.tmp rfl RV.nil) ?_ ⟨M7, rfl, hM2.trans (hl25.trans (hl6.trans hl7)), rfl⟩
      exact Go.SX.Ent.go
    · have hww : o.w = true := by simpa using hww
      refine Q.r ?_; (repeat (intro b1; refine Q.r ?_))
      refine S.c3 (A := jdgH N5 p j) (B := rgH N5 x j) (C := roM N5) rfl (Lapply_spec a1 c1 rs p x j N5 _ hr5.r hu1 hw (by omega) (by omega) hTN) ?_
      rintro _ _ ⟨M6, rfl, hl6, rfl⟩
      rw [hr5.er]
      refine Q.r ?_; (repeat (intro b1; refine Q.r ?_))
      first | refine S.c3 (A := jdgH M6 p (appL j pl.rec_)) (B := rgH M6 x (appL j pl.rec_)) (C := roM M6) rfl (Lapply_spec a2 c2 ns p x (appL j pl.rec_) M6 _ (hr5.n.mono hl6) hu2' hj1 (by omega) (by omega) (hTN.mono hl6)) ?_ | (refine S.guard rfl ?_; refine S.c3 (A := jdgH M6 p (appL j pl.rec_)) (B := rgH M6 x (appL j pl.rec_)) (C := roM M6) rfl (Lapply_spec a2 c2 ns p x (appL j pl.rec_) M6 _ (hr5.n.mono hl6) hu2' hj1 (by omega) (by omega) (hTN.mono hl6)) ?_)
      rintro _ _ ⟨M7, rfl, hl7, rfl⟩
      rw [hr5.en]
      refine Q.r ?_; (repeat (intro b1; refine Q.r ?_))
      refine N.r1 (RV.tmp rfl RV.nil) ?_ ⟨M7, rfl, hM2.trans (hl25.trans (hl6.trans hl7)), rfl⟩
      exact Go.SX.Ent.go
end Go.Proofs.YtiampehfpgcogaaGreatDoor
namespace Go.Proofs.YtiampehfpgcogaaGreatDoor
open Go Go.SX
theorem app_gone {j : JG} {x : Int} : (appG j (goneN x)).tr.length ≤ j.tr.length ∧ (appG j (goneN x)).done = j.done := by
  by_cases hE : appGE j (goneN x) = 0
  · rw [appGe hE (.inr rfl)]
    exact ⟨delL_len _ _, rfl⟩
  · rw [appGno hE]
    exact ⟨Nat.le_refl _, rfl⟩
theorem appL_gone : ∀ (l : List Int) (j : JG), (appL j (l.map goneN)).tr.length ≤ j.tr.length ∧ (appL j (l.map goneN)).done = j.done
  | [], j => ⟨Nat.le_refl _, rfl⟩
  | x :: l, j => by
    obtain ⟨h1, h2⟩ := appL_gone l (appG j (goneN x))
    obtain ⟨h3, h4⟩ := app_gone (j := j) (x := x)
    exact ⟨Nat.le_trans h1 h3, h2.trans h4⟩
theorem epoch_num {j : JG} (h : WN j) : NumA (epochN (j.epoch + 1)) := by
  have e0 := h.g.b.e0
  have e1 := h.g.b.e1
  have z : (0 : Int) ≤ 18446744073709551615 := by decide
  exact NumA.of (show (0 : Int) ≤ 16 by decide) (show (16 : Int) ≤ 255 by decide) (Int.le_refl _) z (Int.le_refl _) z (Int.le_refl _) z (Int.le_refl _) z (show (0 : Int) ≤ 9223372036854775807 by decide) (show 0 ≤ j.epoch + 1 by omega) (show j.epoch + 1 ≤ _ by omega) rfl rfl rfl rfl rfl
theorem step_ok {j : JG} (h : WN j) (s1 : 1 ≤ j.shards) (s2 : j.shards ≤ 4) {n : NA} (u : NumA n) (d fr : Int) (w : Bool) :
    WN (stepG j d fr n w) ∧ (stepG j d fr n w).tr.length ≤ j.tr.length + 2 ∧ (stepG j d fr n w).done.length ≤ j.done.length + 2 ∧ (stepG j d fr n w).shards = j.shards ∧ (stepG j d fr n w).dim = j.dim := by
  have hp := plan_ok h s1 s2 u fr
  have ho := plan_ones j fr n
  unfold stepG stepL
  split
  · obtain ⟨a, b, c, e, f⟩ := appL_ok (l := [n]) h (fun r hr => by rw [List.mem_singleton.1 hr]; exact u)
    rw [List.length_singleton] at b c
    exact ⟨a, by omega, by omega, e, f⟩
  split
  · obtain ⟨a, _, _, e, f⟩ := appL_ok (l := (quitG j).notes) h (fun r hr => ((quit_ok h).1 r hr).1)
    have hm : (quitG j).notes = ((quitL j (sortL (j.tr.map (·.1)))).map (·.txn)).map goneN := by rw [List.map_map]; rfl
    obtain ⟨g1, g2⟩ := appL_gone ((quitL j (sortL (j.tr.map (·.1)))).map (·.txn)) j
    rw [← hm] at g1 g2
    exact ⟨a, Nat.le_trans g1 (Nat.le_add_right _ _), by rw [g2]; exact Nat.le_add_right _ _, e, f⟩
  split
  · obtain ⟨a, b, c, e, f⟩ := appL_ok (l := [epochN (j.epoch + 1)]) h (fun r hr => by rw [List.mem_singleton.1 hr]; exact epoch_num h)
    rw [List.length_singleton] at b c
    exact ⟨a, by omega, by omega, e, f⟩
  split
  · obtain ⟨a, b, c, e, f⟩ := appL_ok (l := (planG j fr n).inst) h (fun r hr => (hp.i r hr).1)
    exact ⟨a, by omega, by omega, e, f⟩
  · obtain ⟨a, b, c, e, f⟩ := appL_ok (l := (planG j fr n).rec_ ++ (planG j fr n).notes) h (fun r hr => by
      rcases List.mem_append.1 hr with hr | hr
      · exact (hp.r r hr).1
      · exact (hp.n r hr).1)
    rw [List.length_append] at b c
    exact ⟨a, by omega, by omega, e, f⟩
structure LS (j : JG) (k : Nat) : Prop where
  w : WN j
  s : j.shards = 3
  dm : j.dim = 2
  t : j.tr.length ≤ 2 * min k 40
  d : j.done.length ≤ 2 * min k 40
theorem LS.zero : LS (JG0 3 2) 0 := ⟨⟨WG.zero (by decide) (by decide), fun _ h => (by cases h), fun _ h => (by cases h)⟩, rfl, rfl, Nat.zero_le _, Nat.zero_le _⟩
theorem LS.step {j : JG} {k : Nat} (h : LS j k) (hk : k < 40) {n : NA} (u : NumA n) (d fr : Int) (w : Bool) : LS (stepG j d fr n w) (k + 1) := by
  have h1 := h.s
  obtain ⟨a, b, c, e, f⟩ := step_ok h.w (by omega) (by omega) u d fr w
  have ht := h.t
  have hd := h.d
  exact ⟨a, by omega, by rw [f]; exact h.dm, by omega, by omega⟩
theorem LS.skip {j : JG} {k : Nat} (h : LS j k) : LS j (k + 1) := by
  have ht := h.t
  have hd := h.d
  exact ⟨h.w, h.s, h.dm, by omega, by omega⟩
theorem LS.b {j : JG} {k : Nat} (h : LS j k) : j.tr.length ≤ 80 ∧ j.done.length ≤ 80 := by
  have ht := h.t
  have hd := h.d
  omega
def trsL (j : JG) : List TR := (sortL (j.tr.map (·.1))).filterMap fun x => lkL j.tr x
theorem trsL_perm {j : JG} (hk : keysOK j.tr) : (trsL j).Perm (j.tr.map (·.2)) := by
  unfold trsL
  refine ((sortL_perm _).filterMap _).trans ?_
  have : ∀ l : List (Int × TR), (∀ u ∈ l, u ∈ j.tr) → (l.map (·.1)).filterMap (fun x => lkL j.tr x) = l.map (·.2) := by
    intro l
    induction l with
    | nil => exact fun _ => rfl
    | cons u l ih =>
      intro hl
      rw [List.map_cons, List.filterMap_cons, (lkL_iff hk).2 (hl u List.mem_cons_self), List.map_cons, ← ih fun v hv => hl v (List.mem_cons_of_mem _ hv)]
  rw [this j.tr fun _ h => h]
theorem trialsL (j : JG) : trialsG j = (trsL j).map bareT := by
  unfold trialsG trsL
  rw [List.map_filterMap]
theorem trials_len {j : JG} (hk : keysOK j.tr) : (trialsG j).length = j.tr.length := by
  rw [trialsL, List.length_map, (trsL_perm hk).length_eq, List.length_map]
def open0 (t : TR) : Bool := decide (t.stamp = 0)
theorem quit_trs (j : JG) : quitL j (sortL (j.tr.map (·.1))) = (trsL j).filter open0 := rfl
def goneJ (j : JG) (ys : List Int) : JG := { j with tr := j.tr.filter fun u => !decide (u.1 ∈ ys) }
theorem goneJ_nil (j : JG) : goneJ j [] = j := by
  unfold goneJ
  have : (j.tr.filter fun u => !decide (u.1 ∈ ([] : List Int))) = j.tr := List.filter_eq_self.2 fun u _ => by simp
  rw [this]
theorem lk_filter {α : Type} {m : List (Int × α)} {x : Int} {g : Int × α → Bool} (hg : ∀ u ∈ m, u.1 = x → g u = true) : lkL (m.filter g) x = lkL m x := by
  unfold lkL
  congr 1
  induction m with
  | nil => rfl
  | cons a m ih =>
    have hi := ih fun u hu => hg u (List.mem_cons_of_mem _ hu)
    rw [List.filter_cons]
    by_cases ha : a.1 = x
    · rw [hg a List.mem_cons_self ha, if_pos rfl, List.find?_cons, List.find?_cons, decide_eq_true ha]
    · have e : (a :: m).find? (fun p => decide (p.1 = x)) = m.find? (fun p => decide (p.1 = x)) := by rw [List.find?_cons, decide_eq_false ha]
      rw [e]
      split
      · rw [List.find?_cons, decide_eq_false ha]; exact hi
      · exact hi
theorem gone_step {j : JG} {ys : List Int} {x : Int} {t : TR} (h0 : 0 ≤ x) (hx : x ∉ ys) (ht : lkL j.tr x = some t) (hs : t.stamp = 0) : appGE (goneJ j ys) (goneN x) = 0 ∧ appG (goneJ j ys) (goneN x) = goneJ j (ys ++ [x]) := by
  have hr : rightN (goneN x) = true := right_txn 22 (.inr rfl) h0
  have hlk : lkL (goneJ j ys).tr x = some t := by
    rw [← ht]
    exact lk_filter fun u _ e => by rw [e]; simpa using hx
  have hE : appGE (goneJ j ys) (goneN x) = 0 := by
    rw [appGEe hr (.inr rfl)]
    rw [show lkL (goneJ j ys).tr (goneN x).txn = some t from hlk]
    dsimp only
    rw [if_neg]
    intro h
    exact h (by rw [decide_eq_false (by omega), decide_eq_false (by decide)])
  refine ⟨hE, ?_⟩
  rw [appGe hE (.inr rfl)]
  unfold goneJ
  dsimp only
  congr 1
  unfold delL
  rw [List.filter_filter]
  refine List.filter_congr fun u _ => ?_
  by_cases h1 : u.1 = x <;> by_cases h2 : u.1 ∈ ys <;> simp [h1, h2]
theorem WN.gone {j : JG} (h : WN j) (ys : List Int) : WN (goneJ j ys) :=
  ⟨⟨⟨h.g.b.e0, h.g.b.e1, h.g.b.s0, h.g.b.s1, h.g.b.l0, h.g.b.l1, h.g.b.d1, h.g.b.d2⟩, (List.filter_sublist.map _).nodup h.g.kt, h.g.kd, fun u hu => h.g.tx u (List.mem_filter.1 hu).1, h.g.dp⟩, fun u hu => h.t u (List.mem_filter.1 hu).1, h.d⟩
def quitX (j : JG) : List Int := ((trsL j).filter open0).map (·.txn)
theorem quitX_iff {j : JG} (h : WN j) {u : Int × TR} (hu : u ∈ j.tr) : u.1 ∈ quitX j ↔ u.2.stamp = 0 := by
  have hp := trsL_perm h.g.kt
  have hlk := (lkL_iff h.g.kt).2 hu
  constructor
  · intro hx
    obtain ⟨t, ht, e⟩ := List.mem_map.1 hx
    obtain ⟨ht, hs⟩ := List.mem_filter.1 ht
    obtain ⟨w, hw, rfl⟩ := List.mem_map.1 (hp.mem_iff.1 ht)
    have hwx := (h.g.tx w hw).xx
    have hwl := (lkL_iff h.g.kt).2 hw
    rw [show w.1 = u.1 by rw [← hwx]; exact e, hlk] at hwl
    have : u.2 = w.2 := Option.some.inj hwl
    rw [this]
    simpa [open0] using hs
  · intro hs
    refine List.mem_map.2 ⟨u.2, List.mem_filter.2 ⟨hp.mem_iff.2 (List.mem_map_of_mem hu), by simpa [open0] using hs⟩, (h.g.tx u hu).xx⟩
theorem quitX_nodup {j : JG} (h : WN j) : (quitX j).Nodup := by
  have hp := trsL_perm h.g.kt
  have h1 : ((trsL j).map (·.txn)).Perm (j.tr.map (·.1)) := by
    refine (hp.map (·.txn)).trans ?_
    rw [List.map_map]
    refine List.Perm.of_eq (List.map_congr_left fun u hu => (h.g.tx u hu).xx)
  have h2 : ((trsL j).map (·.txn)).Nodup := h1.nodup_iff.2 h.g.kt
  exact (List.filter_sublist.map _).nodup h2
theorem quitX_lk {j : JG} (h : WN j) {x : Int} (hx : x ∈ quitX j) : ∃ t, lkL j.tr x = some t ∧ t.stamp = 0 ∧ 0 ≤ x := by
  obtain ⟨t, ht, e⟩ := List.mem_map.1 hx
  obtain ⟨ht, hs⟩ := List.mem_filter.1 ht
  obtain ⟨w, hw, rfl⟩ := List.mem_map.1 ((trsL_perm h.g.kt).mem_iff.1 ht)
  have hwx := h.g.tx w hw
  have e1 : w.1 = x := by rw [← hwx.xx]; exact e
  refine ⟨w.2, ?_, by simpa [open0] using hs, by rw [← e1]; exact hwx.x0⟩
  rw [← e1]; exact (lkL_iff h.g.kt).2 hw
theorem filter_len {α : Type} (g : α → Bool) : ∀ l : List α, (l.filter fun u => !g u).length + (l.filter g).length = l.length
  | [] => rfl
  | a :: l => by
    have := filter_len g l
    cases h : g a <;> simp [List.filter_cons, h] <;> omega
theorem quit_end {j : JG} (h : WN j) : (goneJ j (quitX j)).tr.length + (quitX j).length = j.tr.length ∧ quitX (goneJ j (quitX j)) = [] := by
  have e1 : (goneJ j (quitX j)).tr = j.tr.filter (fun u => !open0 u.2) := by
    refine List.filter_congr fun u hu => ?_
    have := quitX_iff h hu
    unfold open0
    by_cases hs : u.2.stamp = 0
    · simp [this.2 hs, hs]
    · have h2 : u.1 ∉ quitX j := fun h => hs (this.1 h)
      simp [h2, hs]
  have e2 : (quitX j).length = (j.tr.filter fun u => open0 u.2).length := by
    unfold quitX
    rw [List.length_map, ((trsL_perm h.g.kt).filter open0).length_eq, List.filter_map, List.length_map]; rfl
  constructor
  · rw [e1, e2]
    have := filter_len (fun u : Int × TR => open0 u.2) j.tr
    omega
  · cases hq : quitX (goneJ j (quitX j)) with
    | nil => rfl
    | cons x l =>
      exfalso
      have hg := h.gone (quitX j)
      obtain ⟨t, ht, hs, _⟩ := quitX_lk hg (x := x) (by rw [hq]; exact List.mem_cons_self)
      have hm := (lkL_iff hg.g.kt).1 ht
      rw [e1] at hm
      have := (List.mem_filter.1 hm).2
      simp [open0, hs] at this
theorem quit_notes (j : JG) : (quitG j).notes = (quitX j).map goneN := by
  show ((quitL j _).map _) = _
  rw [quit_trs]; unfold quitX; rw [List.map_map]; rfl
def cntQ (l : List TR) : Nat := (l.filter open0).length
def sumQ (l : List TR) : Nat := ((l.filter open0).map fun t => t.parts.length + 1).sum
theorem cntQ_bare (l : List TR) : cntQ (l.map bareT) = cntQ l := by
  unfold cntQ; rw [List.filter_map, List.length_map]; rfl
theorem sumQ_bare (l : List TR) : sumQ (l.map bareT) = sumQ l := by
  unfold sumQ; rw [List.filter_map, List.map_map]; rfl
theorem cnt_quit (j : JG) : (quitG j).notes.length = cntQ (trialsG j) := by
  rw [trialsL, cntQ_bare, quit_notes]; unfold quitX cntQ; rw [List.length_map, List.length_map]
theorem sum_quit (j : JG) : (quitG j).mail.length = sumQ (trialsG j) := by
  rw [trialsL, sumQ_bare]
  show ((quitL j _).flatMap _).length = _
  rw [quit_trs]; unfold sumQ
  rw [List.length_flatMap]
  congr 1
  exact List.map_congr_left fun t _ => toldM_len _ _ _
theorem cntQ_snoc (l : List TR) (t : TR) : cntQ (l ++ [t]) = cntQ l + if t.stamp = 0 then 1 else 0 := by
  unfold cntQ
  rw [List.filter_append, List.length_append, List.filter_cons, List.filter_nil]
  by_cases h : t.stamp = 0
  · rw [if_pos (by simpa [open0] using h), if_pos h]; rfl
  · rw [if_neg (by simpa [open0] using h), if_neg h]; rfl
theorem sumQ_snoc (l : List TR) (t : TR) : sumQ (l ++ [t]) = sumQ l + if t.stamp = 0 then t.parts.length + 1 else 0 := by
  unfold sumQ
  rw [List.filter_append, List.map_append, List.sum_append, List.filter_cons, List.filter_nil]
  by_cases h : t.stamp = 0
  · rw [if_pos (by simpa [open0] using h), if_pos h]; simp
  · rw [if_neg (by simpa [open0] using h), if_neg h]; rfl
theorem quit_mail {j : JG} : ∀ m ∈ (quitG j).mail, m.2.code = 12 ∧ (m.2.kind = 5 ∨ m.2.kind = 2) := by
  intro m hm
  obtain ⟨t, _, ht⟩ := List.mem_flatMap.1 hm
  unfold toldM at ht
  rcases List.mem_append.1 ht with h | h
  · obtain ⟨q, _, rfl⟩ := List.mem_map.1 h; exact ⟨rfl, .inl rfl⟩
  · rw [List.mem_singleton] at h; subst h; exact ⟨rfl, .inr rfl⟩
end Go.Proofs.YtiampehfpgcogaaGreatDoor
namespace Go.Proofs.YtiampehfpgcogaaGreatDoor
open Go Go.SX
attribute [local irreducible] swp opsS thenS blockS retS CallsS St Ent YieldS anyS drawS
theorem rg_new {p : Nat} (M : Nat → Option Obj) {L : List HP} : Ent (pt p (cl [.int .i64 3, .int .i64 2, .int .u64 0, .int .u64 0, .int .u64 0, .slice none 0 0, .slice none 0 0] 33) :: L) (rgH M p (JG0 3 2) :: L) :=
  rg_shut (p := p) (j := JG0 3 2) (ta := none) (tc := 0) (ts := []) (da := none) (dc := 0) (ds := []) ⟨by decide, by decide, List.Perm.refl _, List.Pairwise.nil, fun _ h => (by cases h), fun _ h => (by cases h), SlM.nil0, Nat.le_refl _, List.Perm.refl _, List.Pairwise.nil, SlM.nil0⟩
theorem sum_le {j : JG} (h : WN j) : ∀ l : List TR, (∀ t ∈ l, t.parts.length ≤ 4) → sumQ l ≤ cntQ l * 5
  | [], _ => Nat.le_refl _
  | t :: l, hl => by
    have ih := sum_le h l fun u hu => hl u (List.mem_cons_of_mem _ hu)
    have := hl t List.mem_cons_self
    unfold sumQ cntQ at *
    rw [List.filter_cons]
    split
    · rw [List.map_cons, List.sum_cons, List.length_cons]; omega
    · exact ih
set_option maxHeartbeats 8000000 in
theorem JudgeQuits_spec (a : Option Addr) (c : Nat) (xs : List GO) (M : Nat → Option Obj) (h : SlM M a xs.length 19 (xs.flatMap GO.cells)) (hx : ∀ o ∈ xs, GOK M o) (hn : xs.length ≤ 9223372036854775807) (hT : TabM M) :
    CallsS Tryz.prog 3 [.slice a xs.length c] [roM M] (fun r _ => r = .bool true) := by
  refine CallsS.of_body Tryz.func3 rfl rfl rfl ?_
  refine Q.r ?_; (repeat (intro b1; refine Q.r ?_))
  refine S.cmG rfl (Gawake_spec M _ hT) ?_
  rintro _ _ ⟨M1, rfl, hl1, rfl⟩
  refine Q.r ?_; (repeat (intro b1; refine Q.r ?_))
  refine S.cr rfl (GNew_spec M1 3 2 _ (by decide) (by decide) (by decide) (by decide)) ?_
  rintro _ _ ⟨p, rfl, rfl⟩
  refine Q.r ?_; (repeat (intro b1; refine Q.r ?_))
  revert b1
  intro x
  refine swp_cutB (σ := JG × (Nat → Option Obj)) (fun s => [(3, ptrG p)])
    (fun s => jdgH s.2 p s.1 :: roM s.2 :: []) (fun s => LS s.1 xs.length ∧ leM M s.2) ?_ ?_
  · refine swp_loop (σ := Nat × JG × (Nat → Option Obj)) (fun s => [(3, ptrG p), (5, .pointer (some ⟨x, 0, none⟩)), (26, .slice a xs.length c), (27, .int .i64 xs.length), (28, .int .i64 s.1)])
      (fun s => jdgH s.2.2 p s.2.1 :: rgH s.2.2 x s.2.1 :: roM s.2.2 :: []) (fun s => s.1 ≤ xs.length ∧ LS s.2.1 s.1 ∧ leM M s.2.2) (fun s => xs.length - s.1) (0, JG0 3 2, M1) ⟨rfl, rfl, rfl, rfl, rfl, trivial⟩ (Ent.trans (rg_new M1) (by exact Go.SX.Ent.go)) ⟨Nat.zero_le _, LS.zero, hl1⟩ ?_
    rintro ⟨k, j, M2⟩ ⟨hk, hls, hl2⟩
    dsimp only at hk hls hl2 ⊢
    by_cases hlt : k < xs.length
    · obtain ⟨o, hq⟩ := mem_get hlt
      have hm := List.mem_of_getElem? hq
      obtain ⟨b, oo, hia, cr⟩ := SlM.cm (g := GO.cells) (fun _ => rfl) (h.mono hl2) hq rfl
      have hgo := hx o hm
      have hbb := hls.b
      have hss := hls.s
      rw [hia]
      by_cases h40 : k < 40
      · refine Q.r ?_; (repeat (intro b1; refine Q.r ?_))
        refine S.c3 (A := jdgH M2 p j) (B := rgH M2 x j) (C := roM M2) (args := [ptrG p, .pointer (some ⟨x, 0, none⟩), .agg o.cells.toArray]) rfl (Lstep_spec o p x j M2 _ hls.w (by omega) (by omega) (by omega) (by omega) (hgo.mono hl2) (hT.mono hl2)) ?_
        rintro _ _ ⟨M3, rfl, hl3, rfl⟩
        refine Q.r ?_; (repeat (intro b1; refine Q.r ?_))
        rw [← hia]
        refine ⟨(k + 1, stepG j o.d o.fr o.n.abs.few o.w, M3), ⟨rfl, rfl, rfl, rfl, rfl, trivial⟩, by exact Go.SX.Ent.go, ⟨by dsimp only; omega, hls.step h40 (few_num hgo.uu) _ _ _, hl2.trans hl3⟩, by dsimp only; omega⟩
      · refine Q.r ?_; (repeat (intro b1; refine Q.r ?_))
        rw [← hia]
        refine ⟨(k + 1, j, M2), ⟨rfl, rfl, rfl, rfl, rfl, trivial⟩, by exact Go.SX.Ent.go, ⟨by dsimp only; omega, hls.skip, hl2⟩, by dsimp only; omega⟩
    · have hke : k = xs.length := by omega
      subst hke
      refine Q.r ?_; (repeat (intro b1; refine Q.r ?_))
      exact ⟨(j, M2), ⟨rfl, trivial⟩, by exact Go.SX.Ent.go, hls, hl2⟩
  rintro ⟨j, M2⟩ ⟨hls, hl2⟩
  dsimp only at hls hl2 ⊢
  have hbb := hls.b
  have hw := hls.w
  have hG := hw.g
  have hex := quit_end hw
  have htn := trials_len hG.kt
  have hcq := cnt_quit j
  have hsq := sum_quit j
  refine Q.r ?_; (repeat (intro b1; refine Q.r ?_))
  refine S.cg p rfl (GTrials_spec M2 p j _ hG (by omega)) ?_
  rintro _ _ ⟨a1, c1, us, M3, rfl, hl3, huo, hus, rfl⟩
  have hul : us.length = j.tr.length := by rw [map_len hus, htn]
  refine Q.r ?_; (repeat (intro b1; refine Q.r ?_))
  refine swp_abs a1 (fun M4 hl4 hs4 => ?_)
  refine swp_gm p hl4 ?_
  refine swp_cutB (σ := Nat × Nat) (fun s => [(3, ptrG p), (8, .int .i64 s.1), (9, .int .i64 s.2)])
    (fun _ => jdgH M4 p j :: roM M4 :: []) (fun s => s.1 = cntQ (trialsG j) ∧ s.2 = sumQ (trialsG j)) ?_ ?_
  · refine swp_loop (σ := Nat × Nat × Nat) (fun s => [(3, ptrG p), (44, .slice a1 us.length c1), (45, .int .i64 us.length), (8, .int .i64 s.2.1), (9, .int .i64 s.2.2), (46, .int .i64 s.1)])
      (fun _ => jdgH M4 p j :: roM M4 :: []) (fun s => s.1 ≤ us.length ∧ s.2.1 = cntQ ((us.take s.1).map TV.abs) ∧ s.2.2 = sumQ ((us.take s.1).map TV.abs) ∧ s.2.1 ≤ s.1 ∧ s.2.2 ≤ s.1 * 1000001) (fun s => us.length - s.1) (0, 0, 0) ⟨rfl, rfl, rfl, rfl, rfl, rfl, trivial⟩ (by exact Go.SX.Ent.go) ⟨Nat.zero_le _, rfl, rfl, Nat.le_refl _, Nat.zero_le _⟩ ?_
    rintro ⟨k, cn, sn⟩ ⟨hk, hcn, hsn, hcl, hsl⟩
    dsimp only at hk hcn hsn hcl hsl ⊢
    by_cases hlt : k < us.length
    · obtain ⟨t, hq⟩ := mem_get hlt
      obtain ⟨b, oo, hia, cr⟩ := SlM.cm (g := TV.c8) (fun _ => rfl) hs4 hq rfl
      have hpl := (huo t (List.mem_of_getElem? hq)).pl
      have e1 : cntQ ((us.take (k + 1)).map TV.abs) = cn + if t.stamp = 0 then 1 else 0 := by rw [take_snoc hq, List.map_append, hcn]; exact cntQ_snoc _ _
      have e2 : sumQ ((us.take (k + 1)).map TV.abs) = sn + if t.stamp = 0 then t.parts.length + 1 else 0 := by rw [take_snoc hq, List.map_append, hsn]; exact sumQ_snoc _ _
      rw [hia]
      by_cases hs : t.stamp = 0
      · rw [if_pos hs] at e1 e2
        refine Q.r ?_; (repeat (intro b1; refine Q.r ?_))
        rw [← hia]
        have hb2 : sn + (t.parts.length + 1) ≤ (k + 1) * 1000001 := by omega
        refine ⟨(k + 1, cn + 1, sn + (t.parts.length + 1)), ⟨rfl, rfl, rfl, congrArg some (congrArg (Value.int .i64) (by simp)), congrArg some (congrArg (Value.int .i64) (by simp)), rfl, trivial⟩, by exact Go.SX.Ent.go, ⟨hlt, e1.symm, e2.symm, Nat.succ_le_succ hcl, hb2⟩, Nat.sub_succ_lt_self us.length k hlt⟩
      · rw [if_neg hs] at e1 e2
        refine Q.r ?_; (repeat (intro b1; refine Q.r ?_))
        rw [← hia]
        refine ⟨(k + 1, cn, sn), ⟨rfl, rfl, rfl, rfl, rfl, rfl, trivial⟩, by exact Go.SX.Ent.go, ⟨hlt, e1.symm, e2.symm, Nat.le_succ_of_le hcl, Nat.le_trans hsl (Nat.mul_le_mul_right 1000001 (Nat.le_succ k))⟩, Nat.sub_succ_lt_self us.length k hlt⟩
    · have hke : k = us.length := by omega
      subst hke
      rw [List.take_length, hus] at hcn hsn
      refine Q.r ?_; (repeat (intro b1; refine Q.r ?_))
      exact ⟨(cn, sn), ⟨rfl, rfl, rfl, trivial⟩, by exact Go.SX.Ent.go, hcn, hsn⟩
  rintro ⟨cn, sn⟩ ⟨hcn, hsn⟩
  dsimp only at hcn hsn ⊢
  have hcb : cn ≤ 80 := by
    have h1 := (quit_ok hw).2.1
    omega
  have hT4 : TabM M4 := hT.mono (hl2.trans (hl3.trans hl4))
  refine Q.r ?_; (repeat (intro b1; refine Q.r ?_))
  refine S.cg p rfl (GTrials_spec M4 p j _ hG (by omega)) ?_
  rintro _ _ ⟨a2, c2, us2, M5, rfl, hl5, _, hus2, rfl⟩
  have hul2 : us2.length = j.tr.length := by rw [map_len hus2, htn]
  refine Q.r ?_; (repeat (intro b1; refine Q.r ?_))
  refine S.cg p rfl ((GQuit_spec M5 p j _ hG (by omega)).post fun _ _ h => planGR.of0 h) ?_
  rintro _ _ ⟨q1, d1, rs, q2, d2, ns, q3, d3, ms, q4, d4, is, q5, d5, es, M6, rfl, hl6, ⟨o1, o2, o3, o4, o5⟩, ⟨e1, e2, e3, e4, e5⟩, rfl⟩
  have hnl : ns.length = cn := by rw [map_len e2, hcq, hcn]
  have hml : ms.length = sn := by rw [map_len e3, hsq, hsn]
  have hrl : rs.length = 0 := map_len e1
  refine Q.r ?_; (repeat (intro b1; refine Q.r ?_))
  revert b1
  intro b13
  refine swp_cutB (σ := Unit) (fun _ => [(3, ptrG p), (8, .int .i64 cn), (12, .int .i64 us2.length), (13, .pointer (some ⟨b13, 0, none⟩))])
    (fun _ => pt b13 (cl [.slice q1 rs.length d1, .slice q2 ns.length d2, .slice q3 ms.length d3, .slice q4 is.length d4, .slice q5 es.length d5] 50) :: jdgH M6 p j :: roM M6 :: []) (fun _ => True) ?_ ?_
  · refine swp_loop (σ := Nat) (fun k => [(3, ptrG p), (8, .int .i64 cn), (12, .int .i64 us2.length), (13, .pointer (some ⟨b13, 0, none⟩)), (86, .slice q3 ms.length d3), (87, .int .i64 ms.length), (88, .int .i64 k)])
      (fun _ => pt b13 (cl [.slice q1 rs.length d1, .slice q2 ns.length d2, .slice q3 ms.length d3, .slice q4 is.length d4, .slice q5 es.length d5] 50) :: jdgH M6 p j :: roM M6 :: []) (fun k => k ≤ ms.length) (fun k => ms.length - k) 0 ⟨rfl, rfl, rfl, rfl, rfl, rfl, rfl, trivial⟩ (by exact Go.SX.Ent.go) (Nat.zero_le _) ?_
    intro k hk
    have hmb : ms.length ≤ 100000000 := by
      have h1 := (quit_ok hw).2.1
      have h2 : (quitG j).mail.length ≤ (quitG j).notes.length * 5 := by
        rw [hsq, hcq]
        exact sum_le hw _ (fun t ht => by rw [trialsL] at ht; obtain ⟨w, hw, rfl⟩ := List.mem_map.1 ht; obtain ⟨y, hy, e⟩ := List.mem_map.1 ((trsL_perm hG.kt).mem_iff.1 hw); rw [← e]; exact (hG.tx y hy).pl)
      rw [hml, hsn, ← hsq]
      omega
    by_cases hlt : k < ms.length
    · obtain ⟨m, hq⟩ := mem_get hlt
      obtain ⟨b, oo, hia, cr⟩ := SlM.cm (g := mcells) (fun _ => rfl) o3.1 hq rfl
      have hqm := quit_mail (j := j) (m.1, m.2.abs) (e3 ▸ List.mem_map_of_mem (f := fun m : Int × NV => (m.1, m.2.abs)) (List.mem_of_getElem? hq))
      have hc12 : m.2.code = 12 := hqm.1
      have hk52 : m.2.kind = 5 ∨ m.2.kind = 2 := hqm.2
      rw [hia]
      by_cases hk5 : m.2.kind = 5
      · refine Q.r ?_; (repeat (intro b1; refine Q.r ?_))
        rw [← hia]
        exact ⟨k + 1, ⟨rfl, rfl, rfl, rfl, rfl, rfl, rfl, trivial⟩, by exact Go.SX.Ent.go, hlt, Nat.sub_succ_lt_self ms.length k hlt⟩
      · have hk2 : m.2.kind = 2 := hk52.resolve_left hk5
        refine Q.r ?_; (repeat (intro b1; refine Q.r ?_))
        rw [← hia]
        exact ⟨k + 1, ⟨rfl, rfl, rfl, rfl, rfl, rfl, rfl, trivial⟩, by exact Go.SX.Ent.go, hlt, Nat.sub_succ_lt_self ms.length k hlt⟩
    · have hke : k = ms.length := by omega
      subst hke
      refine Q.r ?_; (repeat (intro b1; refine Q.r ?_))
      exact ⟨(), ⟨rfl, rfl, rfl, rfl, trivial⟩, by exact Go.SX.Ent.go, trivial⟩
  rintro _ _
  have hT6 : TabM M6 := hT4.mono (hl5.trans hl6)
  have hxl : (quitX j).length = cn := by
    have := hcq
    rw [quit_notes, List.length_map] at this
    rw [this, hcn]
  rw [quit_notes] at e2
  refine Q.r ?_; (repeat (intro b1; refine Q.r ?_))
  refine swp_cutB (σ := Nat → Option Obj) (fun _ => [(3, ptrG p), (8, .int .i64 cn), (12, .int .i64 us2.length)])
    (fun s => jdgH s p (goneJ j (quitX j)) :: roM s :: []) (fun _ => True) ?_ ?_
  · refine swp_loop (σ := Nat × (Nat → Option Obj)) (fun s => [(3, ptrG p), (8, .int .i64 cn), (12, .int .i64 us2.length), (110, .slice q2 ns.length d2), (111, .int .i64 ns.length), (112, .int .i64 s.1)])
      (fun s => jdgH s.2 p (goneJ j ((quitX j).take s.1)) :: roM s.2 :: []) (fun s => s.1 ≤ ns.length ∧ leM M6 s.2) (fun s => ns.length - s.1) (0, M6) ⟨rfl, rfl, rfl, rfl, rfl, rfl, trivial⟩ (by rw [List.take_zero, goneJ_nil]; exact Go.SX.Ent.go) ⟨Nat.zero_le _, leM.refl _⟩ ?_
    rintro ⟨k, M7⟩ ⟨hk, hl7⟩
    dsimp only at hk hl7 ⊢
    by_cases hlt : k < ns.length
    · obtain ⟨n, hq⟩ := mem_get hlt
      have hnm := List.mem_of_getElem? hq
      obtain ⟨b, oo, hia, cr⟩ := SlM.cm (g := NV.cells) (fun _ => rfl) (o2.1.mono hl7) hq rfl
      obtain ⟨y, hy⟩ := mem_get (l := quitX j) (k := k) (by omega)
      have hna : n.abs = goneN y := by
        have h1 := congrArg (fun l => l[k]?) e2
        rw [List.getElem?_map, List.getElem?_map, hq, hy] at h1
        exact Option.some.inj h1
      obtain ⟨t, ht, hts, hy0⟩ := quitX_lk hw (List.mem_of_getElem? hy)
      have hynt : y ∉ (quitX j).take k := by
        intro hm
        have hnd := quitX_nodup hw
        rw [split_at hy, List.nodup_append] at hnd
        exact hnd.2.2 y hm y List.mem_cons_self rfl
      obtain ⟨hg1, hg2⟩ := gone_step hy0 hynt ht hts
      have hy1 := (hw.lk ht).x1
      have hnum := gone_ok hy0 hy1
      have hOk : OkN n := OkN.of (by rw [hna]; exact hnum.2)
      have hNu : NumA n.abs := by rw [hna]; exact hnum.1
      rw [hia]
      refine Q.r ?_; (repeat (intro b1; refine Q.r ?_))
      refine S.cg p (args := [ptrG p, n.val]) rfl (GApply_spec n M7 p (goneJ j ((quitX j).take k)) _ (hw.gone _).g ((o2.2 n hnm).mono hl7) hOk (hT6.mono hl7) hNu.nv (by have := hNu.txn.2; show n.abs.txn < _; omega)) ?_
      rintro _ _ ⟨M8, rfl, hl8, rfl⟩
      rw [hna, hg1, hg2]
      refine Q.r ?_; (repeat (intro b1; refine Q.r ?_))
      rw [← hia]
      refine ⟨(k + 1, M8), ⟨rfl, rfl, rfl, rfl, rfl, rfl, trivial⟩, ?_, ⟨hlt, hl7.trans hl8⟩, Nat.sub_succ_lt_self ns.length k hlt⟩
      dsimp only
      rw [take_snoc hy]
      exact Go.SX.Ent.go
    · have hke : k = ns.length := by omega
      subst hke
      rw [hnl, ← hxl, List.take_length]
      refine Q.r ?_; (repeat (intro b1; refine Q.r ?_))
      exact ⟨M7, ⟨rfl, rfl, rfl, trivial⟩, by exact Go.SX.Ent.go, trivial⟩
  rintro M7 _
  have hwg := hw.gone (quitX j)
  have hlen := hex.1
  refine Q.r ?_; (repeat (intro b1; refine Q.r ?_))
  refine S.cg p rfl (GTrials_spec M7 p (goneJ j (quitX j)) _ hwg.g (by omega)) ?_
  rintro _ _ ⟨a3, c3, us3, M8, rfl, hl8, _, hus3, rfl⟩
  have hul3 : us3.length + cn = us2.length := by rw [map_len hus3, trials_len hwg.g.kt, hul2]; omega
  refine Q.r ?_; (repeat (intro b1; refine Q.r ?_))
  refine S.cg p rfl ((GQuit_spec M8 p (goneJ j (quitX j)) _ hwg.g (by omega)).post fun _ _ h => planGR.of0 h) ?_
  rintro _ _ ⟨w1, v1, rs2, w2, v2, ns2, w3, v3, ms2, w4, v4, is2, w5, v5, es2, M9, rfl, hl9, _, ⟨_, e2', _⟩, rfl⟩
  have hn2 : ns2.length = 0 := by rw [map_len e2', quit_notes, hex.2]; rfl
  refine Q.r ?_; (repeat (intro b1; refine Q.r ?_))
  refine S.y (Y.fld rfl rfl rfl) ?_
  refine Q.r ?_; (repeat (intro b1; refine Q.r ?_))
  exact N.r1 (RV.tmp rfl RV.nil) (Ent.refl _) (congrArg Value.bool (decide_eq_true (by omega)))
end Go.Proofs.YtiampehfpgcogaaGreatDoor
