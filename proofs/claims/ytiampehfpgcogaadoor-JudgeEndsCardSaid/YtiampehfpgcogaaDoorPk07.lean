/- The judge: commit. The judge: Apply. The judge: what it always is stays so. The judge: the law's example. JudgeOnce: the walk. The readings of the judge's scripts. JudgeEnds: the law, of states alone. The judge: its transactions, rising. JudgeEnds: the walk. JudgeEnds: the walk. No condition. -/
import Derived.Test.YtiampehfpgcogaaDoorPk06
set_option linter.unusedVariables false
set_option linter.unusedSimpArgs false
set_option linter.unusedSectionVars false
namespace Go.Proofs.YtiampehfpgcogaaDoor
open Go Go.SX
attribute [local irreducible] swp opsS thenS blockS retS CallsS St Ent YieldS anyS drawS
set_option maxHeartbeats 4000000 in
theorem Gcommit_spec (n : NV) (M : Nat → Option Obj) (p : Nat) (j : JG) (L : List HP) (hw : WG j) (hn : okN M n) (hN : OkN n) (h0 : 0 ≤ n.stamp) (hr : rightN n.abs = true) (hk : n.kind = 17) :
    CallsS Tryd.prog 25 [ptrG p, n.val] (jdgH M p j :: roM M :: L) (appR n.abs M p j L) := by
  unfold appR
  refine calls_jdg fun mt md ts hq => ?_
  refine CallsS.of_body Tryd.func25 rfl rfl rfl ?_
  have hnp := hN.p
  have hE := appGE17 (j := j) hr (n := n.abs) hk
  unfold comE at hE
  refine Q.r ?_; (repeat (intro b1; refine Q.r ?_))
  refine Q.dgo [true, true, true, true, true, true] [] [] [0, 1, 2, 3, 4, 5, 6, 7] ?_
  refine Q.rd ?_; (repeat (intro b1; refine Q.rd ?_))
  refine D.y rfl rfl rfl (by kernel_rfl) (Y.lk false rfl rfl (fun w => Tryd.zeroValue70 w)) ?_
  have hlk := lk_tr hq.tr n.txn
  rw [show n.abs.txn = n.txn from rfl] at hE
  by_cases hs0 : n.stamp = 0
  · rw [if_pos hs0] at hE
    have fin : ∀ {f : Env} {Q : Post}, True := trivial
    cases hz : lkL (α := Nat × TV) ts n.txn with
    | some u =>
      dsimp only
      refine Q.rd ?_; (repeat (intro b1; refine Q.rd ?_))
      refine Q.r ?_; (repeat (intro b1; refine Q.r ?_))
      exact N.r1 (RV.tmp rfl RV.nil) (Ent.trans (M := gP p j mt md :: gT mt ts :: trsH ts :: gD md j.done :: roM M :: L) (by exact Go.SX.Ent.go) (jdg_shut hq)) ⟨M, by rw [hE], leM.refl M, by rw [appGno (by rw [hE]; decide)]⟩
    | none =>
      dsimp only
      refine Q.rd ?_; (repeat (intro b1; refine Q.rd ?_))
      refine Q.r ?_; (repeat (intro b1; refine Q.r ?_))
      exact N.r1 (RV.tmp rfl RV.nil) (Ent.trans (M := gP p j mt md :: gT mt ts :: trsH ts :: gD md j.done :: roM M :: L) (by exact Go.SX.Ent.go) (jdg_shut hq)) ⟨M, by rw [hE], leM.refl M, by rw [appGno (by rw [hE]; decide)]⟩
  rw [if_neg hs0] at hE
  cases hz : lkL (α := Nat × TV) ts n.txn with
  | some u =>
    obtain ⟨k, hkk⟩ := lk_idx hz
    rw [hz] at hlk
    rw [show lkL j.tr n.txn = some u.2.abs from hlk] at hE
    dsimp only at hE ⊢
    have hwt := hw.lk hlk
    have htv := hq.ok _ (List.mem_of_getElem? hkk)
    refine Q.rd ?_; (repeat (intro b1; refine Q.rd ?_))
    refine Q.r ?_; (repeat (intro b1; refine Q.r ?_))
    refine opsS_trs hkk ?_
    by_cases hst : 0 < u.2.stamp
    · rw [if_pos hst] at hE
      refine Q.r ?_; (repeat (intro b1; refine Q.r ?_))
      exact N.r1 (RV.tmp rfl RV.nil) (Ent.trans (M := gP p j mt md :: gT mt ts :: oneT u :: trsH (ts.eraseIdx k) :: gD md j.done :: roM M :: L) (by exact Go.SX.Ent.go) (jdg_shut1 hkk hq)) ⟨M, by rw [hE], leM.refl M, by rw [appGno (by rw [hE]; decide)]⟩
    rw [if_neg hst] at hE
    have hS := appG17 hE hk
    rw [show n.abs.txn = n.txn from rfl, show lkL j.tr n.txn = some u.2.abs from hlk] at hS
    dsimp only [Option.getD_some] at hS
    refine Q.r ?_; (repeat (intro b1; refine Q.r ?_))
    refine Q.dgo [true, false, true, true] [11] [] [0, 1, 2, 3, 4, 5, 6, 7, 8, 9, 10, 11] ?_
    refine Q.rd ?_; (repeat (intro b1; refine Q.rd ?_))
    refine D.e rfl rfl rfl ?_
    refine S.mu (r := U64) (u := n.stamp) rfl rfl rfl ?_
    refine Q.r ?_; (repeat (intro b1; refine Q.r ?_))
    refine Q.rd ?_; (repeat (intro b1; refine Q.rd ?_))
    refine Q.r ?_; (repeat (intro b1; refine Q.r ?_))
    refine Q.dgo [false, true, true] [10] [10] [0, 1, 2, 3, 4, 5, 6, 7, 8, 9, 10] ?_
    refine Q.rd ?_; (repeat (intro b1; refine Q.rd ?_))
    refine Q.dc rfl rfl rfl rfl ?_
    refine Q.r ?_; (repeat (intro b1; refine Q.r ?_))
    refine Q.rd ?_; (repeat (intro b1; refine Q.rd ?_))
    refine Q.r ?_; (repeat (intro b1; refine Q.r ?_))
    have hq2 : GQ' M { j with tr := putL j.tr n.txn { u.2.abs with stamp := n.stamp }, done := putL j.done u.2.batch n.stamp, last := max j.last n.stamp } (ts.set k (n.txn, u.1, { u.2 with stamp := n.stamp })) := hq.upd hw.kt hkk (t' := { u.2 with stamp := n.stamp }) ⟨htv.p, htv.y, htv.k, htv.o, htv.ov, htv.pl, htv.yl, htv.kl, htv.ol⟩ rfl rfl
    refine N.r1 (RV.tmp rfl RV.nil) (Ent.trans (M := gP p { j with tr := putL j.tr n.txn { u.2.abs with stamp := n.stamp }, done := putL j.done u.2.batch n.stamp, last := max j.last n.stamp } mt md :: gT mt ts :: oneT (u.1, { u.2 with stamp := n.stamp }) :: trsH (ts.eraseIdx k) :: gD md (putL j.done u.2.batch n.stamp) :: roM M :: L) (by exact Go.SX.Ent.go) (trs_upd hkk hq2)) ⟨M, by rw [hE], leM.refl M, by rw [hS]⟩
  | none =>
    rw [hz] at hlk
    rw [show lkL j.tr n.txn = none from hlk] at hE
    dsimp only at hE ⊢
    have hS := appG17 hE hk
    rw [show n.abs.txn = n.txn from rfl, show lkL j.tr n.txn = none from hlk] at hS
    dsimp only [Option.getD_none] at hS
    have hput : ∀ v : Nat × TV, putL ts n.txn v = ts ++ [(n.txn, v)] := fun v => putL_none (lk_none hq.tr hlk)
    refine Q.rd ?_; (repeat (intro b1; refine Q.rd ?_))
    refine Q.r ?_; (repeat (intro b1; refine Q.r ?_))
    refine Q.dgo [true] [6, 9] [] [0, 1, 2, 3, 4, 5, 6, 7, 8, 9, 10] ?_
    refine Q.rd ?_; (repeat (intro b1; refine Q.rd ?_))
    refine D.e rfl rfl rfl ?_
    refine S.cr rfl (CloneP_spec n.pa n.pc n.parts _ hn.rd.p hnp) ?_
    rintro _ _ ⟨pa, pc, rfl, rfl⟩
    refine opsS_abs pa (fun M1 hl1 hs1 => ?_)
    refine Q.r ?_; (repeat (intro b1; refine Q.r ?_))
    refine Q.rd ?_; (repeat (intro b1; refine Q.rd ?_))
    refine Q.r ?_; (repeat (intro b1; refine Q.r ?_))
    refine Q.dgo [true, false, false, true] [7] [] [0, 1, 2, 3, 4, 5, 6, 7] ?_
    refine Q.rd ?_; (repeat (intro b1; refine Q.rd ?_))
    refine D.e rfl rfl rfl ?_
    refine S.mu (r := ptT) (u := (b1, (⟨n.txn, n.batch, n.stamp, 0, 0, pa, pc, n.parts, none, 0, [], none, 0, [], none, 0, []⟩ : TV))) rfl rfl rfl ?_
    rw [hput]
    refine Q.r ?_; (repeat (intro b1; refine Q.r ?_))
    refine Q.rd ?_; (repeat (intro b1; refine Q.rd ?_))
    refine Q.r ?_; (repeat (intro b1; refine Q.r ?_))
    refine Q.dgo [true, true, true] [11] [] [0, 1, 2, 3, 4, 5, 6, 7, 8, 9, 10, 11] ?_
    refine Q.rd ?_; (repeat (intro b1; refine Q.rd ?_))
    refine D.e rfl rfl rfl ?_
    refine S.mu (g := U64) (q := n.batch) (r := U64) (u := n.stamp) rfl rfl rfl ?_
    refine Q.r ?_; (repeat (intro b1; refine Q.r ?_))
    refine Q.rd ?_; (repeat (intro b1; refine Q.rd ?_))
    refine Q.r ?_; (repeat (intro b1; refine Q.r ?_))
    refine Q.dgo [true, true, true] [10] [10] [0, 1, 2, 3, 4, 5, 6, 7, 8, 9, 10] ?_
    refine Q.rd ?_; (repeat (intro b1; refine Q.rd ?_))
    refine Q.dc rfl rfl rfl rfl ?_
    refine Q.r ?_; (repeat (intro b1; refine Q.r ?_))
    refine Q.rd ?_; (repeat (intro b1; refine Q.rd ?_))
    refine Q.r ?_; (repeat (intro b1; refine Q.r ?_))
    have hq2 : GQ' M1 { j with tr := putL j.tr n.txn { comT n.abs with stamp := n.stamp }, done := putL j.done n.batch n.stamp, last := max j.last n.stamp } (ts ++ [(n.txn, b1, ⟨n.txn, n.batch, n.stamp, 0, 0, pa, pc, n.parts, none, 0, [], none, 0, [], none, 0, []⟩)]) := (hq.mono hl1).new hlk ⟨hs1, SlM.nil0, SlM.nil0, SlM.nil0, fun o ho => (by cases ho), hnp, Nat.zero_le _, Nat.zero_le _, Nat.zero_le _⟩ rfl rfl
    refine N.r1 (RV.tmp rfl RV.nil) (Ent.trans (M := oneT (b1, (⟨n.txn, n.batch, n.stamp, 0, 0, pa, pc, n.parts, none, 0, [], none, 0, [], none, 0, []⟩ : TV)) :: trsH ts :: gP p { j with tr := putL j.tr n.txn { comT n.abs with stamp := n.stamp }, done := putL j.done n.batch n.stamp, last := max j.last n.stamp } mt md :: gT mt (ts ++ [(n.txn, b1, ⟨n.txn, n.batch, n.stamp, 0, 0, pa, pc, n.parts, none, 0, [], none, 0, [], none, 0, []⟩)]) :: gD md (putL j.done n.batch n.stamp) :: roM M1 :: L) (by exact Go.SX.Ent.go) (Ent.trans (trs_new ts (n.txn, b1, _)) (Ent.trans (by exact Go.SX.Ent.go) (jdg_shut (p := p) (mt := mt) (md := md) (L := roM M1 :: L) hq2)))) ⟨M1, by rw [hE], hl1, by rw [hS]⟩
end Go.Proofs.YtiampehfpgcogaaDoor
namespace Go.Proofs.YtiampehfpgcogaaDoor
open Go Go.SX
attribute [local irreducible] swp opsS thenS blockS retS CallsS St Ent YieldS anyS drawS
theorem del_erase {ts : List TB} (hk : keysOK ts) {k : Nat} {u : TB} (h : ts[k]? = some u) : delL ts u.1 = ts.eraseIdx k := by
  have hkl : k < ts.length := (List.getElem?_eq_some_iff.1 h).1
  have he := (List.getElem?_eq_some_iff.1 h).2
  rcases keyCase ts hk u.1 with ⟨p, a, q, hpq, hp, hqn⟩ | hn
  · have hkp : k = p.length := by
      rw [hpq] at h
      rcases Nat.lt_trichotomy k p.length with h1 | h1 | h1
      · rw [List.getElem?_append_left h1] at h
        exact absurd rfl (hp _ (List.mem_of_getElem? h))
      · exact h1
      · rw [List.getElem?_append_right (by omega)] at h
        obtain ⟨d, hd⟩ : ∃ d, k - p.length = d + 1 := ⟨k - p.length - 1, by omega⟩
        rw [hd, List.getElem?_cons_succ] at h
        exact absurd rfl (hqn _ (List.mem_of_getElem? h))
    rw [hpq, delL_mid hp hqn, hkp, List.eraseIdx_append_of_length_le (Nat.le_refl _), Nat.sub_self, List.eraseIdx_cons_zero]
  · exact absurd rfl (hn u (List.mem_of_getElem? h))
theorem ts_keys {ts : List TB} {tr : List (Int × TR)} (h : ts.map (fun u => (u.1, u.2.2.abs)) = tr) (hk : keysOK tr) : keysOK ts := by
  have : tr.map (·.1) = ts.map (·.1) := by rw [← h, List.map_map]; rfl
  unfold keysOK at *
  rw [← this]; exact hk
theorem GQ'.del {M : Nat → Option Obj} {j j' : JG} {ts : List TB} (h : GQ' M j ts) {x : Int} (hs : j'.shards = j.shards) (htr : j'.tr = delL j.tr x) : GQ' M j' (delL ts x) :=
  ⟨by rw [hs]; exact h.s1, by rw [hs]; exact h.s2, by rw [htr, ← h.tr]; exact delL_map (fun u : Nat × TV => u.2.abs) ts x, fun u hu => h.ok u (List.mem_filter.1 hu).1⟩
set_option maxHeartbeats 4000000 in
theorem GApply_spec' (n : NV) (M : Nat → Option Obj) (p : Nat) (j : JG) (L : List HP) (hw : WG j) (hn : okN M n) (hN : OkN n) (hT : TabM M) (hu : NumN n) (hu2 : n.txn < 18446744073709551616)
    (hR : n.kind = 16 → rightN n.abs = true → ∀ L : List HP, CallsS Tryd.prog 23 [ptrG p, .int .u64 n.mark] (jdgH M p j :: roM M :: L) (appR n.abs M p j L)) :
    CallsS Tryd.prog 9 [ptrG p, n.val] (jdgH M p j :: roM M :: L) (appR n.abs M p j L) := by
  unfold appR at *
  refine CallsS.of_body Tryd.func9 rfl rfl rfl ?_
  refine Q.r ?_; (repeat (intro b1; refine Q.r ?_))
  refine S.cr rfl (NRight_spec n _ hn.rd hN hT.rd hu.kind) ?_
  rintro _ _ ⟨rfl, rfl⟩
  cases hr : rightN n.abs with
  | false =>
    have hE : appGE j n.abs = 4 := by unfold appGE; rw [if_pos hr]
    refine Q.r ?_; (repeat (intro b1; refine Q.r ?_))
    exact N.r1 (RV.tmp rfl RV.nil) (show Ent _ (jdgH M p j :: roM M :: L) by exact Go.SX.Ent.go) ⟨M, by rw [hE], leM.refl M, by rw [appGno (by rw [hE]; decide)]⟩
  | true =>
  refine Q.r ?_; (repeat (intro b1; refine Q.r ?_))
  refine swp_jdg p (fun mt md ts hq => ?_)
  have hlk := lk_tr hq.tr n.txn
  revert b1
  intro b3
  refine swp_cutT (σ := Unit) (fun _ => [(0, ptrG p), (3, .pointer (some ⟨b3, 0, none⟩)), (5, match lkL (α := Nat × TV) ts n.txn with | none => .pointer none | some u => ptT u)])
    (fun _ => pt b3 (cl n.cells 39) :: gP p j mt md :: gT mt ts :: trsH ts :: gD md j.done :: roM M :: L) (fun _ => True) ?_ ?_
  · refine Q.dgo [true, true, true, true, true, true] [] [] [0, 1, 2, 3, 4, 5, 6, 7] ?_
    refine Q.rd ?_; (repeat (intro b1; refine Q.rd ?_))
    refine D.y rfl rfl rfl (by kernel_rfl) (Y.lk false rfl rfl (fun w => Tryd.zeroValue70 w)) ?_
    cases hz : lkL (α := Nat × TV) ts n.txn with
    | some u =>
      dsimp only
      refine Q.rd ?_; (repeat (intro b1; refine Q.rd ?_))
      exact N.tn ⟨(), ⟨rfl, rfl, rfl, trivial⟩, by (try dsimp only); exact Go.SX.Ent.go, trivial⟩
    | none =>
      dsimp only
      refine Q.rd ?_; (repeat (intro b1; refine Q.rd ?_))
      exact N.tn ⟨(), ⟨rfl, rfl, rfl, trivial⟩, by (try dsimp only); exact Go.SX.Ent.go, trivial⟩
  rintro _ _
  by_cases h16 : n.kind = 16
  · refine Q.r ?_; (repeat (intro b1; refine Q.r ?_))
    refine opsS_ent (gclose (p := p) (mt := mt) (md := md) (ts := ts) hq) ?_
    refine S.cg p rfl (hR h16 hr _) ?_
    rintro _ _ ⟨M1, rfl, hl, rfl⟩
    refine Q.r ?_; (repeat (intro b1; refine Q.r ?_))
    exact N.r1 (RV.tmp rfl RV.nil) (show Ent _ (jdgH M1 p (appG j n.abs) :: roM M1 :: L) by exact Go.SX.Ent.go) ⟨M1, rfl, hl, rfl⟩
  by_cases h19 : n.kind = 19
  · refine Q.r ?_; (repeat (intro b1; refine Q.r ?_))
    refine opsS_ent (gclose (p := p) (mt := mt) (md := md) (ts := ts) hq) ?_
    refine S.cg p rfl (Gbegin_spec n M p j _ hw hn hN hu.txn hu2 hr h19) ?_
    rintro _ _ ⟨M1, rfl, hl, rfl⟩
    refine Q.r ?_; (repeat (intro b1; refine Q.r ?_))
    exact N.r1 (RV.tmp rfl RV.nil) (show Ent _ (jdgH M1 p (appG j n.abs) :: roM M1 :: L) by exact Go.SX.Ent.go) ⟨M1, rfl, hl, rfl⟩
  by_cases h17 : n.kind = 17
  · refine Q.r ?_; (repeat (intro b1; refine Q.r ?_))
    refine opsS_ent (gclose (p := p) (mt := mt) (md := md) (ts := ts) hq) ?_
    refine S.cg p rfl (Gcommit_spec n M p j _ hw hn hN hu.stamp hr h17) ?_
    rintro _ _ ⟨M1, rfl, hl, rfl⟩
    refine Q.r ?_; (repeat (intro b1; refine Q.r ?_))
    exact N.r1 (RV.tmp rfl RV.nil) (show Ent _ (jdgH M1 p (appG j n.abs) :: roM M1 :: L) by exact Go.SX.Ent.go) ⟨M1, rfl, hl, rfl⟩
  have hE0 : ∀ E, (¬ (n.kind = 20 ∨ n.kind = 21 ∨ n.kind = 18 ∨ n.kind = 22) → E = 4) → (n.kind = 20 ∨ n.kind = 21 ∨ n.kind = 18 ∨ n.kind = 22 → lkL j.tr n.txn = none → E = 6) → True := fun _ _ _ => trivial
  by_cases hk : n.kind = 20 ∨ n.kind = 21 ∨ n.kind = 18 ∨ n.kind = 22
  · cases hz : lkL (α := Nat × TV) ts n.txn with
    | none =>
      rw [hz] at hlk
      have hlk1 : lkL j.tr n.txn = none := hlk
      have hE : appGE j n.abs = 6 := by
        unfold appGE
        rw [if_neg (by rw [hr]; decide), if_neg (show ¬ n.abs.kind = 16 from h16), if_neg (show ¬ n.abs.kind = 19 from h19), if_neg (show ¬ n.abs.kind = 17 from h17), if_pos (show n.abs.kind = 20 ∨ n.abs.kind = 21 ∨ n.abs.kind = 18 ∨ n.abs.kind = 22 from hk), show lkL j.tr n.abs.txn = none from hlk1]
      have fin : Ent (pt b3 (cl n.cells 39) :: gP p j mt md :: gT mt ts :: trsH ts :: gD md j.done :: roM M :: L) (jdgH M p j :: roM M :: L) := Ent.drop (jdg_shut hq)
      dsimp only
      rcases hk with hk | hk | hk | hk
      · refine Q.r ?_; (repeat (intro b1; refine Q.r ?_))
        exact N.r1 (RV.tmp rfl RV.nil) fin ⟨M, by rw [hE], leM.refl M, by rw [appGno (by rw [hE]; decide)]⟩
      · refine Q.r ?_; (repeat (intro b1; refine Q.r ?_))
        exact N.r1 (RV.tmp rfl RV.nil) fin ⟨M, by rw [hE], leM.refl M, by rw [appGno (by rw [hE]; decide)]⟩
      · refine Q.r ?_; (repeat (intro b1; refine Q.r ?_))
        exact N.r1 (RV.tmp rfl RV.nil) fin ⟨M, by rw [hE], leM.refl M, by rw [appGno (by rw [hE]; decide)]⟩
      · refine Q.r ?_; (repeat (intro b1; refine Q.r ?_))
        exact N.r1 (RV.tmp rfl RV.nil) fin ⟨M, by rw [hE], leM.refl M, by rw [appGno (by rw [hE]; decide)]⟩
    | some u =>
      obtain ⟨k, hkk⟩ := lk_idx hz
      rw [hz] at hlk
      have hlk1 : lkL j.tr n.txn = some u.2.abs := hlk
      have hwt := hw.lk hlk1
      have htv := hq.ok _ (List.mem_of_getElem? hkk)
      dsimp only
      by_cases hk1 : n.kind = 20 ∨ n.kind = 21
      · have hE := appGEw (j := j) hr (show n.abs.kind = 20 ∨ n.abs.kind = 21 from hk1)
        rw [show lkL j.tr n.abs.txn = some u.2.abs from hlk1] at hE
        dsimp only at hE
        have key : ∀ (L2 : List HP) (r : Value) (M1 : Nat → Option Obj) (t' : TV), r = .int .i64 (saidE u.2.abs n.abs) → leM M M1 → okT M1 t' → t'.abs = (if saidE u.2.abs n.abs = 0 then saidT u.2.abs n.abs else u.2.abs) → (saidE u.2.abs n.abs ≠ 0 → t' = u.2) →
            Ent (oneT (u.1, t') :: roM M1 :: pt b3 (cl n.cells 39) :: gP p j mt md :: gT mt ts :: trsH (ts.eraseIdx k) :: gD md j.done :: L2) (jdgH M1 p (appG j n.abs) :: roM M1 :: L2) := by
          intro L2 r M1 t' _ hl ht hta hne
          by_cases hs : saidE u.2.abs n.abs = 0
          · rw [if_pos hs] at hta
            rw [appGw (by rw [hE]; exact hs) (show n.abs.kind = 20 ∨ n.abs.kind = 21 from hk1) (show lkL j.tr n.abs.txn = some u.2.abs from hlk1)]
            have hq2 : GQ' M1 { j with tr := putL j.tr n.abs.txn (saidT u.2.abs n.abs) } (ts.set k (n.txn, u.1, t')) := (hq.mono hl).upd hw.kt hkk ht rfl (by rw [hta])
            exact Ent.trans (M := gP p { j with tr := putL j.tr n.abs.txn (saidT u.2.abs n.abs) } mt md :: gT mt ts :: oneT (u.1, t') :: trsH (ts.eraseIdx k) :: gD md j.done :: roM M1 :: L2) (by exact Go.SX.Ent.go) (trs_upd hkk hq2)
          · rw [appGno (by rw [hE]; exact hs), hne hs]
            exact Ent.trans (M := gP p j mt md :: gT mt ts :: oneT u :: trsH (ts.eraseIdx k) :: gD md j.done :: roM M1 :: L2) (by exact Go.SX.Ent.go) (jdg_shut1 hkk (hq.mono hl))
        rcases hk1 with hk1 | hk1
        · refine Q.r ?_; (repeat (intro b1; refine Q.r ?_))
          refine opsS_trs hkk ?_
          refine S.c2 (A := oneT u) (B := roM M) rfl (Gsaid_spec n u n.txn M _ htv hwt (.inl hk1)) ?_
          rintro _ _ ⟨M1, t', rfl, hl, ht, hta, hne, rfl⟩
          refine Q.r ?_; (repeat (intro b1; refine Q.r ?_))
          exact N.r1 (RV.tmp rfl RV.nil) (Ent.trans (by exact Go.SX.Ent.go) (key L (.int .i64 (saidE u.2.abs n.abs)) M1 t' rfl hl ht hta hne)) ⟨M1, by rw [hE], hl, rfl⟩
        · refine Q.r ?_; (repeat (intro b1; refine Q.r ?_))
          refine opsS_trs hkk ?_
          refine S.c2 (A := oneT u) (B := roM M) rfl (Gsaid_spec n u n.txn M _ htv hwt (.inr hk1)) ?_
          rintro _ _ ⟨M1, t', rfl, hl, ht, hta, hne, rfl⟩
          refine Q.r ?_; (repeat (intro b1; refine Q.r ?_))
          exact N.r1 (RV.tmp rfl RV.nil) (Ent.trans (by exact Go.SX.Ent.go) (key L (.int .i64 (saidE u.2.abs n.abs)) M1 t' rfl hl ht hta hne)) ⟨M1, by rw [hE], hl, rfl⟩
      · have hk2 : n.kind = 18 ∨ n.kind = 22 := by omega
        have hE := appGEe (j := j) hr (show n.abs.kind = 18 ∨ n.abs.kind = 22 from hk2)
        rw [show lkL j.tr n.abs.txn = some u.2.abs from hlk1, show n.abs.kind = n.kind from rfl] at hE
        dsimp only at hE
        rcases hk2 with hk2 | hk2
        · by_cases hst : ¬ 0 < u.2.stamp
          · have hE1 : appGE j n.abs = 10 := by rw [hE, hk2, if_pos (by simp [hst])]
            refine Q.r ?_; (repeat (intro b1; refine Q.r ?_))
            refine swp_trs hkk ?_
            refine Q.dgo [true, false, true] [] [] [0, 1, 2, 3, 4, 5, 6, 7, 8, 9, 10] ?_
            refine Q.rd ?_; (repeat (intro b1; refine Q.rd ?_))
            refine Q.r ?_; (repeat (intro b1; refine Q.r ?_))
            exact N.r1 (RV.tmp rfl RV.nil) (Ent.trans (M := gP p j mt md :: gT mt ts :: oneT u :: trsH (ts.eraseIdx k) :: gD md j.done :: roM M :: L) (by exact Go.SX.Ent.go) (jdg_shut1 hkk hq)) ⟨M, by rw [hE1], leM.refl M, by rw [appGno (by rw [hE1]; decide)]⟩
          · have hE1 : appGE j n.abs = 0 := by rw [hE, hk2, if_neg (by simp [hst])]
            have hS := appGe hE1 (show n.abs.kind = 18 ∨ n.abs.kind = 22 from .inl hk2)
            refine Q.r ?_; (repeat (intro b1; refine Q.r ?_))
            refine swp_trs hkk ?_
            refine Q.dgo [true, false, true] [] [] [0, 1, 2, 3, 4, 5, 6, 7, 8, 9, 10] ?_
            refine Q.rd ?_; (repeat (intro b1; refine Q.rd ?_))
            refine Q.r ?_; (repeat (intro b1; refine Q.r ?_))
            refine Q.dgo [false, true, false, true] [6] [] [0, 1, 2, 3, 4, 5, 6] ?_
            refine Q.rd ?_; (repeat (intro b1; refine Q.rd ?_))
            refine D.e rfl rfl rfl ?_
            refine S.dl (g := U64) (q := n.txn) rfl rfl ?_
            refine Q.r ?_; (repeat (intro b1; refine Q.r ?_))
            refine Q.rd ?_; (repeat (intro b1; refine Q.rd ?_))
            refine Q.r ?_; (repeat (intro b1; refine Q.r ?_))
            have hq2 : GQ' M { j with tr := delL j.tr n.txn } (delL ts n.txn) := hq.del rfl rfl
            refine N.r1 (RV.tmp rfl RV.nil) (Ent.trans (M := gP p { j with tr := delL j.tr n.txn } mt md :: gT mt (delL ts n.txn) :: trsH (delL ts n.txn) :: gD md j.done :: roM M :: L) ?_ (jdg_shut hq2)) ⟨M, by rw [hE1], leM.refl M, by rw [hS]⟩
            rw [show trsH (delL ts n.txn) = trsH (ts.eraseIdx k) from congrArg trsH (del_erase (ts_keys hq.tr hw.kt) hkk)]
            exact Go.SX.Ent.go
        · by_cases hst : 0 < u.2.stamp
          · have hE1 : appGE j n.abs = 10 := by rw [hE, hk2, if_pos (by simp [hst])]
            refine Q.r ?_; (repeat (intro b1; refine Q.r ?_))
            refine swp_trs hkk ?_
            refine Q.dgo [true, false, true] [] [] [0, 1, 2, 3, 4, 5, 6, 7, 8, 9, 10] ?_
            refine Q.rd ?_; (repeat (intro b1; refine Q.rd ?_))
            refine Q.r ?_; (repeat (intro b1; refine Q.r ?_))
            exact N.r1 (RV.tmp rfl RV.nil) (Ent.trans (M := gP p j mt md :: gT mt ts :: oneT u :: trsH (ts.eraseIdx k) :: gD md j.done :: roM M :: L) (by exact Go.SX.Ent.go) (jdg_shut1 hkk hq)) ⟨M, by rw [hE1], leM.refl M, by rw [appGno (by rw [hE1]; decide)]⟩
          · have hE1 : appGE j n.abs = 0 := by rw [hE, hk2, if_neg (by simp [hst])]
            have hS := appGe hE1 (show n.abs.kind = 18 ∨ n.abs.kind = 22 from .inr hk2)
            refine Q.r ?_; (repeat (intro b1; refine Q.r ?_))
            refine swp_trs hkk ?_
            refine Q.dgo [true, false, true] [] [] [0, 1, 2, 3, 4, 5, 6, 7, 8, 9, 10] ?_
            refine Q.rd ?_; (repeat (intro b1; refine Q.rd ?_))
            refine Q.r ?_; (repeat (intro b1; refine Q.r ?_))
            refine Q.dgo [false, true, false, true] [6] [] [0, 1, 2, 3, 4, 5, 6] ?_
            refine Q.rd ?_; (repeat (intro b1; refine Q.rd ?_))
            refine D.e rfl rfl rfl ?_
            refine S.dl (g := U64) (q := n.txn) rfl rfl ?_
            refine Q.r ?_; (repeat (intro b1; refine Q.r ?_))
            refine Q.rd ?_; (repeat (intro b1; refine Q.rd ?_))
            refine Q.r ?_; (repeat (intro b1; refine Q.r ?_))
            have hq2 : GQ' M { j with tr := delL j.tr n.txn } (delL ts n.txn) := hq.del rfl rfl
            refine N.r1 (RV.tmp rfl RV.nil) (Ent.trans (M := gP p { j with tr := delL j.tr n.txn } mt md :: gT mt (delL ts n.txn) :: trsH (delL ts n.txn) :: gD md j.done :: roM M :: L) ?_ (jdg_shut hq2)) ⟨M, by rw [hE1], leM.refl M, by rw [hS]⟩
            rw [show trsH (delL ts n.txn) = trsH (ts.eraseIdx k) from congrArg trsH (del_erase (ts_keys hq.tr hw.kt) hkk)]
            exact Go.SX.Ent.go
  · have hE : appGE j n.abs = 4 := by
      unfold appGE
      rw [if_neg (by rw [hr]; decide), if_neg (show ¬ n.abs.kind = 16 from h16), if_neg (show ¬ n.abs.kind = 19 from h19), if_neg (show ¬ n.abs.kind = 17 from h17), if_neg (show ¬ (n.abs.kind = 20 ∨ n.abs.kind = 21 ∨ n.abs.kind = 18 ∨ n.abs.kind = 22) from hk)]
    have k1 : ¬ n.kind = 20 := fun h => hk (.inl h)
    have k2 : ¬ n.kind = 21 := fun h => hk (.inr (.inl h))
    have k3 : ¬ n.kind = 18 := fun h => hk (.inr (.inr (.inl h)))
    have k4 : ¬ n.kind = 22 := fun h => hk (.inr (.inr (.inr h)))
    refine Q.r ?_; (repeat (intro b1; refine Q.r ?_))
    exact N.r1 (RV.tmp rfl RV.nil) (Ent.drop (jdg_shut hq)) ⟨M, by rw [hE], leM.refl M, by rw [appGno (by rw [hE]; decide)]⟩
end Go.Proofs.YtiampehfpgcogaaDoor
namespace Go.Proofs.YtiampehfpgcogaaDoor
open Go Go.SX
theorem partsV_get {l : List Int} (h : partsV l = true) {k : Nat} (hk : k < l.length) : 0 ≤ l[k] ∧ l[k] < 16 ∧ (∀ (h0 : 0 < k), l[k - 1]'(by omega) < l[k]) := by
  unfold partsV at h
  have := List.all_eq_true.1 h k (List.mem_range.2 hk)
  unfold okP at this
  have e : ∀ i (hi : i < l.length), l.getD i 0 = l[i] := fun i hi => by simp [List.getD, hi]
  rw [e k hk] at this
  simp only [Bool.and_eq_true, Bool.or_eq_true, decide_eq_true_eq] at this
  refine ⟨this.1.1, this.1.2, fun h0 => ?_⟩
  rcases this.2 with h1 | h1
  · omega
  · rwa [e (k - 1) (by omega)] at h1
theorem partsV_ok {l : List Int} (h : partsV l = true) : Rise l ∧ ∀ q ∈ l, 0 ≤ q ∧ q < 16 := by
  constructor
  · refine List.pairwise_iff_getElem.2 ?_
    intro i j hi hj hij
    induction j with
    | zero => omega
    | succ j ih =>
      have hs := (partsV_get h hj).2.2 (by omega)
      simp only [Nat.add_sub_cancel] at hs
      by_cases he : i = j
      · subst he; exact hs
      · exact Int.lt_trans (ih (by omega) (by omega)) hs
  · intro q hq
    obtain ⟨k, hk, rfl⟩ := List.getElem_of_mem hq
    exact ⟨(partsV_get h hk).1, (partsV_get h hk).2.1⟩
theorem right_parts {n : NA} (h : rightN n = true) : Rise n.parts ∧ (∀ q ∈ n.parts, 0 ≤ q ∧ q < 16) ∧ n.parts.length ≤ 4 := by
  unfold rightN boundN at h
  simp only [Bool.and_eq_true, Bool.not_eq_true', Bool.or_eq_false_iff, decide_eq_false_iff_not] at h
  have := partsV_ok h.2.1.1.2
  exact ⟨this.1, this.2, by omega⟩
theorem right_max {n : NA} (h : rightN n = true) : n.stamp ≤ 1099511627776 ∧ n.mark ≤ 1099511627776 := by
  unfold rightN boundN at h
  simp only [Bool.and_eq_true, Bool.not_eq_true', Bool.or_eq_false_iff, decide_eq_false_iff_not] at h
  omega
theorem putL_memG {κ α : Type} [DecidableEq κ] {m : List (κ × α)} {k : κ} {a : α} {x : κ × α} (h : x ∈ putL m k a) : x ∈ m ∨ x = (k, a) := by
  unfold putL at h
  split at h
  · obtain ⟨u, hu, rfl⟩ := List.mem_map.1 h
    split
    · exact .inr rfl
    · exact .inl hu
  · rcases List.mem_append.1 h with h | h
    · exact .inl h
    · exact .inr (List.mem_singleton.1 h)
theorem WG.app {j : JG} (h : WG j) {n : NA} (h0 : 0 ≤ n.txn) (hst : 0 ≤ n.stamp) (hmk : 0 ≤ n.mark) : WG (appG j n) := by
  by_cases hE : ¬ appGE j n = 0
  · rw [appGno hE]; exact h
  have hE : appGE j n = 0 := Classical.not_not.1 hE
  cases hr : rightN n with
  | false => unfold appGE at hE; rw [if_pos hr] at hE; cases hE
  | true =>
  have hb := h.b
  have hp := right_parts hr
  have hm := right_max hr
  have ho := (right_opsG hr).2
  by_cases h16 : n.kind = 16
  · rw [appG16 hE h16]
    have hmj : j.epoch < n.mark := by
      rw [appGE16 hr h16] at hE
      split at hE
      · cases hE
      · omega
    exact ⟨⟨hmk, hm.2, Int.le_refl _, (show (0 : Int) < 1048576 by decide), hb.l0, hb.l1, hb.d1, hb.d2⟩, (List.filter_sublist.map _).nodup h.kt, h.kd, fun u hu => h.tx u (List.mem_filter.1 hu).1, h.dp⟩
  by_cases h19 : n.kind = 19
  · rw [appG19 hE h19]
    refine ⟨⟨hb.e0, hb.e1, ?_, ?_, hb.l0, hb.l1, hb.d1, hb.d2⟩, putL_ok h.kt _ _, h.kd, fun u hu => ?_, h.dp⟩
    · have := hb.s0
      dsimp only
      split <;> omega
    · have := hb.s1
      dsimp only
      split <;> omega
    · rcases putL_memG hu with hu | rfl
      · exact h.tx u hu
      · exact ⟨rfl, h0, Int.le_refl _, hp.1, hp.2.2, hp.2.1, List.Pairwise.nil, fun _ h => (by cases h), List.Pairwise.nil, fun _ h => (by cases h), ho⟩
  by_cases h17 : n.kind = 17
  · rw [appG17 hE h17]
    have hne : n.stamp ≠ 0 := by
      rw [appGE17 hr h17] at hE
      unfold comE at hE
      intro e
      rw [if_pos e] at hE; cases hE
    refine ⟨⟨hb.e0, hb.e1, hb.s0, hb.s1, ?_, ?_, hb.d1, hb.d2⟩, putL_ok h.kt _ _, putL_ok h.kd _ _, fun u hu => ?_, fun u hu => ?_⟩
    · have := hb.l0; dsimp only; omega
    · have := hb.l1; dsimp only; omega
    · rcases putL_memG hu with hu | rfl
      · exact h.tx u hu
      · cases hz : lkL j.tr n.txn with
        | some t =>
          have ht := h.lk hz
          exact ⟨ht.xx, ht.x0, hst, ht.r, ht.pl, ht.pb, ht.yr, ht.ys, ht.kr, ht.ks, ht.ol⟩
        | none => exact ⟨rfl, h0, hst, hp.1, hp.2.2, hp.2.1, List.Pairwise.nil, fun _ h => (by cases h), List.Pairwise.nil, fun _ h => (by cases h), Nat.zero_le _⟩
    · rcases putL_memG hu with hu | rfl
      · exact h.dp u hu
      · dsimp only; omega
  by_cases hw : n.kind = 20 ∨ n.kind = 21
  · have hE2 := hE
    rw [appGEw hr hw] at hE2
    cases hz : lkL j.tr n.txn with
    | none => rw [hz] at hE2; cases hE2
    | some t =>
      rw [hz] at hE2
      dsimp only at hE2
      have ht := h.lk hz
      rw [appGw hE hw hz]
      refine ⟨⟨hb.e0, hb.e1, hb.s0, hb.s1, hb.l0, hb.l1, hb.d1, hb.d2⟩, putL_ok h.kt _ _, h.kd, fun u hu => ?_, h.dp⟩
      rcases putL_memG hu with hu | rfl
      · exact h.tx u hu
      · unfold saidE at hE2
        by_cases hne : decide (0 < t.stamp) ≠ decide (n.kind = 21)
        · rw [if_pos hne] at hE2; cases hE2
        · rw [if_neg hne] at hE2
          by_cases hno : n.who ∉ t.parts ∨ n.who ∈ (if n.kind = 21 then t.acked else t.yes)
          · rw [if_pos hno] at hE2; cases hE2
          · skip
            have hpp : n.who ∈ t.parts := Classical.not_not.1 fun e => hno (.inl e)
            have hnn : n.who ∉ (if n.kind = 21 then t.acked else t.yes) := fun e => hno (.inr e)
            unfold saidT
            by_cases h21 : n.kind = 21
            · rw [if_pos h21] at hnn ⊢
              exact ⟨ht.xx, ht.x0, ht.st, ht.r, ht.pl, ht.pb, ht.yr, ht.ys, putI_rise ht.kr hnn, fun q hq => (by rcases putI_mem.1 hq with rfl | hq; exact hpp; exact ht.ks q hq), ht.ol⟩
            · rw [if_neg h21] at hnn ⊢
              exact ⟨ht.xx, ht.x0, ht.st, ht.r, ht.pl, ht.pb, putI_rise ht.yr hnn, fun q hq => (by rcases putI_mem.1 hq with rfl | hq; exact hpp; exact ht.ys q hq), ht.kr, ht.ks, ht.ol⟩
  · by_cases he : n.kind = 18 ∨ n.kind = 22
    · rw [appGe hE he]
      exact ⟨⟨hb.e0, hb.e1, hb.s0, hb.s1, hb.l0, hb.l1, hb.d1, hb.d2⟩, delL_ok h.kt _, h.kd, fun u hu => h.tx u (List.mem_filter.1 hu).1, h.dp⟩
    · unfold appGE at hE
      rw [if_neg (by rw [hr]; decide), if_neg h16, if_neg h19, if_neg h17, if_neg (by omega)] at hE
      cases hE
theorem WG.zero {s d : Int} (h1 : 1 ≤ d) (h2 : d ≤ 8) : WG (JG0 s d) :=
  ⟨⟨Int.le_refl _, (show (0 : Int) ≤ 1099511627776 by decide), Int.le_refl _, (show (0 : Int) < 1048576 by decide), Int.le_refl _, (show (0 : Int) ≤ 1099511627776 by decide), h1, h2⟩, List.nodup_nil, List.nodup_nil, fun _ h => (by cases h), fun _ h => (by cases h)⟩
theorem GI.zero : GI (JG0 3 2) 0 (fun _ _ => False) [] :=
  ⟨rfl, rfl, Int.le_refl _, Int.le_refl _, Int.le_refl _, Int.le_refl _, List.nodup_nil, List.nodup_nil, List.nodup_nil, fun _ _ h => (by cases h), fun _ _ h => (by cases h), fun _ _ h => (by cases h), fun _ _ _ _ h => (by cases h)⟩
end Go.Proofs.YtiampehfpgcogaaDoor
namespace Go.Proofs.YtiampehfpgcogaaDoor
open Go Go.SX
attribute [local irreducible] swp opsS thenS blockS retS CallsS St Ent YieldS anyS drawS
section
variable {n : Nat} {ops rest : List Oper} {cd : Code} {Q : Post} {f : Env} {L L0 : List HP} {M : Nat → Option Obj}
end
theorem OkN.right {n : NV} (h : rightN n.abs = true) : OkN n := by
  have hv : ∀ v : List Int, bareV v = true → v.length ≤ 1000000 := by
    intro v hv
    unfold bareV rightV at hv
    simp only [Bool.or_eq_true, Bool.and_eq_true, decide_eq_true_eq] at hv
    omega
  unfold rightN boundN at h
  simp only [Bool.and_eq_true, Bool.not_eq_true', Bool.or_eq_false_iff, decide_eq_false_iff_not, Bool.not_eq_false'] at h
  obtain ⟨_, ⟨⟨⟨⟨_, ⟨⟨h1, h2⟩, h3⟩, h4⟩, _⟩, h5⟩, h6⟩⟩ := h
  have h1' : n.parts.length ≤ 1000000 := by
    have h : ¬ 4 < n.parts.length := h1
    omega
  have h2' : n.ops.length ≤ 1000000 := by
    have h : ¬ 16 < (n.ops.map OV.abs).length := h2
    rw [List.length_map] at h; omega
  have h3' : n.hits.length ≤ 1000000 := by
    have h : ¬ 16 < (n.hits.map HV.abs).length := h3
    rw [List.length_map] at h; omega
  refine ⟨h1', h2', fun o ho => ?_, hv _ h4, h3', fun o ho => ?_⟩
  · have := List.any_eq_false.1 h5 o.abs (List.mem_map_of_mem (f := OV.abs) ho)
    unfold badOp at this
    simp only [Bool.or_eq_true, decide_eq_true_eq, Bool.not_eq_true', not_or, Bool.not_eq_false] at this
    exact hv _ this.2
  · have := List.any_eq_false.1 h6 o.abs (List.mem_map_of_mem (f := HV.abs) ho)
    unfold badHit at this
    simp only [Bool.or_eq_true, decide_eq_true_eq, Bool.not_eq_true', not_or, Bool.not_eq_false] at this
    exact hv _ (by unfold bareV; rw [this.2]; simp)
theorem NumN.right {n : NV} (h : rightN n.abs = true) (hz : NZ n.abs) : NumN n := by
  have hk : 1 ≤ n.kind ∧ n.kind ≤ 22 := by
    unfold rightN at h
    simp only [Bool.and_eq_true, decide_eq_true_eq] at h
    exact h.1.1
  exact ⟨by omega, hz.t0, hz.s, hz.m, hz.a⟩
theorem right_of_app {j : JG} {n : NA} (h : appGE j n = 0) : rightN n = true := by
  cases hr : rightN n with
  | true => rfl
  | false => unfold appGE at h; rw [if_pos hr] at h; cases h
theorem map_one {α β : Type} {f : α → β} {l : List α} {b : β} (h : l.map f = [b]) : ∃ x, l = [x] ∧ f x = b := by
  match l, h with
  | [x], h => exact ⟨x, rfl, List.head_eq_of_cons_eq h⟩
theorem map_two {α β : Type} {f : α → β} {l : List α} {b c : β} (h : l.map f = [b, c]) : ∃ x y, l = [x, y] ∧ f x = b ∧ f y = c := by
  match l, h with
  | [x, y], h => exact ⟨x, y, rfl, List.head_eq_of_cons_eq h, List.head_eq_of_cons_eq (List.tail_eq_of_cons_eq h)⟩
abbrev exOps : VL := [(0, [1]), (1, [1])]
abbrev exAsk : NA := { NA.zero with kind := 1, batch := 9, ops := exOps }
abbrev exT : TR := ⟨1, 9, 0, 0, 3, [1, 2], [], [], exOps⟩
abbrev exJ1 : JG := ⟨2, 1, 0, 1, 0, [(1, exT)], []⟩
abbrev exV : NA := { NA.zero with kind := 4, txn := 1 }
abbrev exY : NA := { NA.zero with kind := 20, txn := 1, who := 1 }
abbrev exJ2 : JG := ⟨2, 1, 0, 1, 0, [(1, { exT with yes := [1] })], []⟩
abbrev exC : NA := { NA.zero with kind := 17, txn := 1, batch := 9, stamp := 1, parts := [1, 2] }
theorem gx0 : homeV 2 0 = 0 ∧ homeV 2 1 = 1 := ⟨by kernel_rfl, by kernel_rfl⟩
theorem gx1 : planG (JG0 2 1) 3 exAsk = ⟨[], [beginN exT], [prepM 2 exT 1, prepM 2 exT 2], [], []⟩ := by kernel_rfl
theorem gx2 : appGE (JG0 2 1) (beginN exT) = 0 ∧ appG (JG0 2 1) (beginN exT) = exJ1 := ⟨by kernel_rfl, by kernel_rfl⟩
theorem gx3 : planG exJ1 1 exV = ⟨[], [exY], [], [], []⟩ := by kernel_rfl
theorem gx4 : appGE exJ1 exY = 0 ∧ appG exJ1 exY = exJ2 := ⟨by kernel_rfl, by kernel_rfl⟩
theorem gx5 : (planG exJ2 2 exV).rec_ = [exC] := by kernel_rfl
set_option maxHeartbeats 4000000 in
theorem Gawake_spec (M : Nat → Option Obj) (L : List HP) (hT : TabM M) : CallsS Tryd.prog 5 [] (roM M :: L) (fun r L' => ∃ M', r = .bool true ∧ leM M M' ∧ L' = roM M' :: L) := by
  refine CallsS.of_body Tryd.func5 rfl rfl rfl ?_
  refine Q.r ?_; (repeat (intro b1; refine Q.r ?_))
  refine S.cr rfl (GNew_spec M 2 1 _ (by decide) (by decide) (by decide) (by decide)) ?_
  rintro _ _ ⟨p, rfl, rfl⟩
  refine Q.r ?_; (repeat (intro b1; refine Q.r ?_))
  refine swp_cutB (σ := Option Addr × Nat × List OV) (fun s => [(1, ptrG p), (3, .slice s.1 s.2.2.length s.2.1)])
    (fun s => slO 57 2 s.1 s.2.2.length s.2.1 (s.2.2.flatMap OV.cells) :: vecsH s.2.2 :: jdgH M p (JG0 2 1) :: roM M :: L) (fun s => s.2.2.map OV.abs = exOps) ?_ ?_
  · refine swp_loop (σ := Nat × Option Addr × Nat × List OV) (fun s => [(1, ptrG p), (3, .slice s.2.1 s.2.2.2.length s.2.2.1), (4, .int .u64 s.1)])
      (fun s => slO 57 2 s.2.1 s.2.2.2.length s.2.2.1 (s.2.2.2.flatMap OV.cells) :: vecsH s.2.2.2 :: jdgH M p (JG0 2 1) :: roM M :: L)
      (fun s => s.1 ≤ 2 ∧ s.2.2.2.map OV.abs = exOps.take s.1) (fun s => 2 - s.1) (0, none, 0, []) ⟨rfl, rfl, rfl, trivial⟩ (Ent.trans bodV_nil slO_nil) ⟨by omega, rfl⟩ ?_
    rintro ⟨k, a3, c3, us⟩ ⟨hk, hus⟩
    dsimp only at hk hus ⊢
    have hul : us.length = k := by
      have := congrArg List.length hus
      simp at this; omega
    by_cases hlt : k < 2
    · refine Q.r ?_; (repeat (intro b1; refine Q.r ?_))
      refine S.cr rfl (Home_spec k 2 _ (by decide) (by decide)) ?_
      rintro _ _ ⟨rfl, rfl⟩
      have hh : homeV 2 k = k := by
        have : k = 0 ∨ k = 1 := by omega
        rcases this with rfl | rfl
        · exact gx0.1
        · exact gx0.2
      rw [hh]
      refine Q.r ?_; (repeat (intro b1; refine Q.r ?_))
      rename_i bv
      refine S.app rfl rfl (SrcS.sl RdC.row (by rfl) (by rfl)) (by rfl) (by omega) (by omega) (fun a7 c7 => ?_)
      refine Q.r ?_; (repeat (intro b1; refine Q.r ?_))
      refine S.y (Y.add rfl rfl) ?_
      rw [wrap_u64 (by omega) (by omega)]
      refine Q.r ?_; (repeat (intro b1; refine Q.r ?_))
      refine ⟨(k + 1, a7, c7, us ++ [⟨k, some ⟨bv, 0, none⟩, 1, [1]⟩]), ⟨rfl, congrArg some (by simp), congrArg some (congrArg (Value.int .u64) (by simp)), trivial⟩, ?_, ⟨by dsimp only; omega, ?_⟩, by dsimp only; omega⟩
      · dsimp only
        rw [len_snoc, flat_snoc]
        refine Ent.trans (M := pt bv (cl [Value.int .i32 1] 21) :: vecsH us :: slO 57 2 a7 (us.length + 1) c7 (us.flatMap OV.cells ++ [Value.int .u64 k, .slice (some ⟨bv, 0, none⟩) 1 1]) :: jdgH M p (JG0 2 1) :: roM M :: L) (by exact Go.SX.Ent.go) (Ent.trans (slO_fold (sz := 1) (m := 1) rfl) (Ent.trans (vecs_snoc (o := ⟨k, some ⟨bv, 0, none⟩, 1, [1]⟩) rfl) ?_))
        exact Go.SX.Ent.go
      · dsimp only
        have : k = 0 ∨ k = 1 := by omega
        rw [List.map_append, hus]
        rcases this with rfl | rfl <;> rfl
    · have hk2 : k = 2 := by omega
      subst hk2
      refine Q.r ?_; (repeat (intro b1; refine Q.r ?_))
      exact ⟨(a3, c3, us), ⟨rfl, rfl, trivial⟩, by exact Go.SX.Ent.go, hus⟩
  · rintro ⟨a, c, us⟩ hus
    dsimp only at hus ⊢
    have hul : us.length = 2 := by have h := congrArg List.length hus; rw [List.length_map] at h; exact h
    refine swp_abs a (fun M1 hl1 hs1 => ?_)
    refine swp_absV us (fun M2 hl2 hs2 => ?_)
    refine swp_gm p (hl1.trans hl2) ?_
    have hn : okN M2 ⟨1, 0, 9, 0, 0, 0, 0, 0, 0, 0, 0, 0, none, 0, [], a, c, us, none, 0, [], none, 0, []⟩ := ⟨SlM.nil0, ⟨hs1.mono hl2, hs2⟩, SlM.nil0, SlM.nil0, fun o ho => by cases ho⟩
    have hna : NV.abs ⟨1, 0, 9, 0, 0, 0, 0, 0, 0, 0, 0, 0, none, 0, [], a, c, us, none, 0, [], none, 0, []⟩ = exAsk := congrArg (fun z => ({ NA.zero with kind := 1, batch := 9, ops := z } : NA)) hus
    have hr0 : rightN (NV.abs ⟨1, 0, 9, 0, 0, 0, 0, 0, 0, 0, 0, 0, none, 0, [], a, c, us, none, 0, [], none, 0, []⟩) = true := by rw [hna]; kernel_rfl
    have hw0 : WG (JG0 2 1) := WG.zero (by decide) (by decide)
    refine Q.r ?_; (repeat (intro b1; refine Q.r ?_))
    refine S.cg p (args := [ptrG p, .int .i64 3, NV.val ⟨1, 0, 9, 0, 0, 0, 0, 0, 0, 0, 0, 0, none, 0, [], a, c, us, none, 0, [], none, 0, []⟩]) rfl (GPlan_spec _ M2 p (JG0 2 1) 3 _ hw0.b hn (OkN.right hr0) (hT.mono (hl1.trans hl2)) (by show (0 : Int) ≤ 1 ∧ (1 : Int) ≤ 255; decide)) ?_
    rw [hna, gx1]
    rintro _ _ ⟨a1, c1, rs, a2, c2, ns, a3, c3, ms, a4, c4, is, a5, c5, es, M3, rfl, hl3, ⟨o1, o2, o3, _, _⟩, ⟨e1, e2, e3, _, _⟩, rfl⟩
    dsimp only at e1 e2 e3
    obtain ⟨n1, rfl, f1⟩ := map_one e2
    obtain ⟨m1, m2, rfl, g1, g2⟩ := map_two e3
    obtain ⟨bn, on, rfl, cn⟩ := SlM.cm (g := NV.cells) (k := 0) (fun _ => rfl) o2.1 rfl rfl
    obtain ⟨bm, om, rfl, cm1⟩ := SlM.cm (g := mcells) (k := 0) (fun _ => rfl) o3.1 rfl rfl
    obtain ⟨bm', om', hbm, cm2⟩ := SlM.cm (g := mcells) (k := 1) (fun _ => rfl) o3.1 rfl rfl
    cases hbm
    have g3 : m1.1 = 1 := congrArg Prod.fst g1
    have g4 : m2.1 = 2 := congrArg Prod.fst g2
    dsimp only [List.length_cons, List.length_nil]
    refine Q.rn ?_; (repeat (intro b1; refine Q.rn ?_))
    have hr1 : rightN n1.abs = true := by rw [f1]; kernel_rfl
    have k1 : n1.kind = 19 := congrArg NA.kind f1
    have t1 : n1.txn = 1 := congrArg NA.txn f1
    have hz1 : NZ n1.abs := by rw [f1]; exact ⟨by decide, by decide, by decide, by decide, by decide⟩
    have hl13 : leM M M3 := hl1.trans (hl2.trans hl3)
    refine S.cg p rfl (GApply_spec' n1 M3 p (JG0 2 1) _ hw0 (o2.2 n1 (List.mem_singleton.2 rfl)) (OkN.right hr1) (hT.mono hl13) (NumN.right hr1 hz1) hz1.t1 (fun h => absurd h (by omega))) ?_
    rw [f1]
    rintro _ _ ⟨M4, rfl, hl4, rfl⟩
    rw [gx2.1, gx2.2]
    have cn := cn.mono hl4
    refine Q.rn ?_; (repeat (intro b1; refine Q.rn ?_))
    rw [t1]
    have hT4 := hT.mono (hl13.trans hl4)
    have hw1 : WG exJ1 := by rw [← gx2.2]; exact hw0.app (by decide) (by decide) (by decide)
    refine S.cg p (args := [ptrG p, .int .i64 1, (NA.nv exV).val]) rfl (GPlan_spec (NA.nv exV) M4 p exJ1 1 _ hw1.b (okN.nv _) (OkN.nv _) hT4 (by show (0 : Int) ≤ 4 ∧ (4 : Int) ≤ 255; decide)) ?_
    rw [show (NA.nv exV).abs = exV from rfl, gx3]
    rintro _ _ ⟨a6, c6, rs6, a7, c7, ns7, a8, c8, ms8, a9, c9, is9, aa, ca, esa, M5, rfl, hl5, ⟨_, o7, _, _, _⟩, ⟨_, e7, _, _, _⟩, rfl⟩
    dsimp only at e7
    obtain ⟨n2, rfl, f2⟩ := map_one e7
    obtain ⟨bn2, on2, rfl, cn2⟩ := SlM.cm (g := NV.cells) (k := 0) (fun _ => rfl) o7.1 rfl rfl
    have hr2 : rightN n2.abs = true := by rw [f2]; kernel_rfl
    have k2 : n2.kind = 20 := congrArg NA.kind f2
    have hz2 : NZ n2.abs := by rw [f2]; exact ⟨by decide, by decide, by decide, by decide, by decide⟩
    have hT5 := hT4.mono hl5
    dsimp only [List.length_cons, List.length_nil]
    refine Q.rn ?_; (repeat (intro b1; refine Q.rn ?_))
    refine S.cg p rfl (GApply_spec' n2 M5 p exJ1 _ hw1 (o7.2 n2 (List.mem_singleton.2 rfl)) (OkN.right hr2) hT5 (NumN.right hr2 hz2) hz2.t1 (fun h => absurd h (by omega))) ?_
    rw [f2]
    rintro _ _ ⟨M6, rfl, hl6, rfl⟩
    rw [gx4.1, gx4.2]
    have hT6 := hT5.mono hl6
    have hw2 : WG exJ2 := by rw [← gx4.2]; exact hw1.app (by decide) (by decide) (by decide)
    refine Q.rn ?_; (repeat (intro b1; refine Q.rn ?_))
    refine S.cg p (args := [ptrG p, .int .i64 2, (NA.nv exV).val]) rfl (GPlan_spec (NA.nv exV) M6 p exJ2 2 _ hw2.b (okN.nv _) (OkN.nv _) hT6 (by show (0 : Int) ≤ 4 ∧ (4 : Int) ≤ 255; decide)) ?_
    rw [show (NA.nv exV).abs = exV from rfl]
    rintro _ _ ⟨ab, cb, rsb, ac, cc, nsc, ad, cd, msd, ae, ce, ise, af, cf, esf, M7, rfl, hl7, ⟨ob, _, _, _, _⟩, ⟨eb, _, _, _, _⟩, rfl⟩
    rw [gx5] at eb
    obtain ⟨n3, rfl, f3⟩ := map_one eb
    obtain ⟨bn3, on3, rfl, cn3⟩ := SlM.cm (g := NV.cells) (k := 0) (fun _ => rfl) ob.1 rfl rfl
    have k3 : n3.kind = 17 := congrArg NA.kind f3
    have s3 : n3.stamp = 1 := congrArg NA.stamp f3
    dsimp only [List.length_cons, List.length_nil]
    refine Q.rn ?_; (repeat (intro b1; refine Q.rn ?_))
    exact N.r1 (RV.tmp rfl RV.nil) (show Ent _ (roM M7 :: L) by exact Go.SX.Ent.go) ⟨M7, congrArg Value.bool (decide_eq_true s3), hl13.trans (hl4.trans (hl5.trans (hl6.trans hl7))), rfl⟩
end Go.Proofs.YtiampehfpgcogaaDoor
namespace Go.SX
open Go
theorem mp_keys {κ α : Type} [DecidableEq κ] {g : κ → Value} {r : α → Value} {b : Nat} {m : List (κ × α)} {P : Program} {n : Nat} {ops rest : List Oper} {Q : Post} {f : Env} {L L0 : List HP} [h : Pick (mpO g r b m) L L0] (hk : keysOK m → opsS P n ops rest Q f L) : opsS P n ops rest Q f L := fun ok F a w s t => by
  have t1 := h.ent w F t
  obtain ⟨hh, hf, hp⟩ := St.read_cons (L := L0 ++ F) t1
  obtain ⟨es, c, he, _⟩ := hp
  exact hk he.2.1 ok F a w s t
section
variable {P : Program} {n : Nat} {ops : List Oper} {f : Env} {A : List HP} {d : Tmp} {ty : TypeId} {pos : String} {af : Array Edge}
end
end Go.SX
namespace Go.Proofs.YtiampehfpgcogaaDoor
open Go Go.SX
attribute [local irreducible] swp opsS thenS blockS retS CallsS St Ent YieldS anyS drawS
structure AfterR (j1 : JG) (k : Nat) (Y : Int → Int → Prop) (D1 : List (Int × Int)) (n : NA) (pl : PG) : Prop where
  m : ∀ m ∈ pl.mail, m.2.kind = 5 → n.kind = 7 ∨ lkL D1 m.2.txn = none ∨ (m.2.code = 0 ∧ lkL D1 m.2.txn = some m.2.stamp)
  n : (pl.notes = [] ∧ GI j1 k Y D1) ∨ ∃ r, pl.notes = [r] ∧ NZ r ∧ r.kind ≠ 16 ∧ appGE j1 r = 0 ∧ (r.kind = 22 → lkL D1 r.txn = none) ∧ GI (appG j1 r) k Y D1 ∧ (appG j1 r).done = j1.done ∧ (appG j1 r).last = j1.last
structure RecR (j : JG) (k : Nat) (Y : Int → Int → Prop) (D : List (Int × Int)) (n : NA) (pl : PG) (r : NA) : Prop where
  z : NZ r
  e : appGE j r = 0
  k6 : r.kind ≠ 16
  c : (r.kind ≠ 17 ∧ AfterR (appG j r) k Y D n pl ∧ (appG j r).done = j.done ∧ (appG j r).last = j.last) ∨
    (r.kind = 17 ∧ lkL D r.txn = none ∧ r.stamp = j.last + 1 ∧ lkL j.done r.batch = none ∧ (∀ q ∈ r.parts, Y r.txn q) ∧ AfterR (appG j r) k Y (putL D r.txn r.stamp) n pl ∧ (appG j r).done = putL j.done r.batch r.stamp ∧ (appG j r).last = r.stamp)
structure GO where
  d : Int
  fr : Int
  n : NV
  w : Bool
abbrev GO.cells (o : GO) : List Value := [.int .u8 o.d, .int .i64 o.fr, .int .u8 o.n.kind, .int .u64 o.n.txn, .int .u64 o.n.batch, .int .u64 o.n.stamp, .int .u64 o.n.after, .int .u64 o.n.mark, .int .u64 o.n.query, .int .u64 o.n.id, .int .i64 o.n.k, .int .i64 o.n.ef, .int .i64 o.n.code, .int .i64 o.n.who,
  .slice o.n.pa o.n.parts.length o.n.pc, .slice o.n.oa o.n.ops.length o.n.oc, .slice o.n.va o.n.vec.length o.n.vc, .slice o.n.ha o.n.hits.length o.n.hc, .bool o.w]
structure GOK (M : Nat → Option Obj) (o : GO) : Prop where
  n : okN M o.n
  c : CapN o.n
  u : NumN o.n
  uu : NumA o.n.abs
theorem GOK.mono {M M' : Nat → Option Obj} {o : GO} (h : GOK M o) (hl : leM M M') : GOK M' o := ⟨h.n.mono hl, h.c, h.u, h.uu⟩
end Go.Proofs.YtiampehfpgcogaaDoor
namespace Go.Proofs.YtiampehfpgcogaaDoor
open Go Go.SX Go.ChangeShapes Go.WideShapes Go.ChangeAt Go.RowKit
end Go.Proofs.YtiampehfpgcogaaDoor
namespace Go.Proofs.YtiampehfpgcogaaDoor
open Go Go.SX
section
variable (s : Int) (t : TR)
abbrev jV (y : List Int) : JG := ⟨s, 2, 0, 1, 0, [(1, { t with yes := y })], []⟩
abbrev jC (y k : List Int) : JG := ⟨s, 2, 0, 1, 1, [(1, { t with yes := y, stamp := 1, acked := k })], [(4, 1)]⟩
abbrev jG : JG := ⟨s, 2, 0, 1, 0, [], []⟩
abbrev jF : JG := ⟨s, 2, 0, 1, 1, [], [(4, 1)]⟩
structure T0 : Prop where
  x : t.txn = 1
  b : t.batch = 4
  s : t.stamp = 0
  w : t.who = 9
  r : Rise t.parts
  pb : ∀ q ∈ t.parts, 1 ≤ q ∧ q ≤ 4
  pl : t.parts.length ≤ 4
  p0 : 0 < t.parts.length
  k : t.acked = []
end
abbrev voteN' (c : Int) : NA := { NA.zero with kind := 4, txn := 1, code := c }
abbrev ackN' : NA := { NA.zero with kind := 6, txn := 1 }
theorem vr0 : rightN (voteN' 0) = true := by kernel_rfl
theorem vr1 : rightN (voteN' 11) = true := by kernel_rfl
theorem vr2 : rightN ackN' = true := by kernel_rfl
theorem vr3 : rightN (goneN 1) = true := by kernel_rfl
theorem vr4 : rightN { NA.zero with kind := 18, txn := 1 } = true := by kernel_rfl
structure ES (R : Nat) (j : JG) (pl : PG) (told : Int) (j' : JG) (told' : Int) : Prop where
  r : (pl.rec_ ++ pl.notes = [] ∧ j' = j) ∨ ∃ r, pl.rec_ ++ pl.notes = [r] ∧ NZ r ∧ r.kind ≠ 16 ∧ appGE j r = 0 ∧ j' = appG j r
  m : (pl.mail = [] ∧ told' = told) ∨ ∃ (t : TR) (s c : Int), pl.mail = toldM t s c ∧ t.who = 9 ∧ (c = 0 ↔ R = 0) ∧ told' = told + 1 ∧ t.parts.length ≤ 4
theorem nz_who (k w : Int) : NZ { NA.zero with kind := k, txn := 1, who := w } := ⟨by show (0 : Int) ≤ 1; decide, by show (1 : Int) < 18446744073709551616; decide, Int.le_refl _, Int.le_refl _, Int.le_refl _⟩
theorem plan_vote {j : JG} {fr c : Int} (hf : 1 ≤ fr ∧ fr ≤ 4) (hr : rightN (voteN' c) = true) : planG j fr (voteN' c) = voteG j fr (voteN' c) := by
  unfold planG
  rw [if_neg (by rintro (h | h | h); rw [hr] at h; cases h; omega; omega), if_neg (show ¬ (4 : Int) = 1 by decide), if_pos rfl]
theorem plan_ack {j : JG} {fr : Int} (hf : 1 ≤ fr ∧ fr ≤ 4) : planG j fr ackN' = ackG j fr ackN' := by
  unfold planG
  rw [if_neg (by rintro (h | h | h); rw [vr2] at h; cases h; omega; omega), if_neg (show ¬ (6 : Int) = 1 by decide), if_neg (show ¬ (6 : Int) = 4 by decide), if_pos rfl]
theorem put1 {α : Type} {x : Int} (hx : x = 1) (a b : α) : putL [((1 : Int), a)] x b = [(1, b)] := by subst hx; rfl
theorem lkx {α : Type} {x : Int} (hx : x = 1) (a : α) : lkL [((1 : Int), a)] x = some a := by subst hx; rfl
section
variable {s : Int} {t : TR} {R : Nat} {y k : List Int} {fr told : Int}
theorem ev_yes (h : T0 t) (hp : fr ∈ t.parts) (hy : fr ∉ y) (hl : y.length + 1 ≠ t.parts.length) : ES R (jV s t y) (planG (jV s t y) fr (voteN' 0)) told (jV s t (putI y fr)) told := by
  have hf := h.pb fr hp
  rw [plan_vote hf vr0]
  have hv : voteG (jV s t y) fr (voteN' 0) = ⟨[], [{ NA.zero with kind := 20, txn := 1, who := fr }], [], [], []⟩ := by
    unfold voteG
    rw [show lkL (jV s t y).tr (voteN' 0).txn = some { t with yes := y } from rfl]
    dsimp only
    rw [if_neg (by rintro (h1 | h1); rw [h.s] at h1; cases h1; exact h1 hp), if_neg (fun h1 => h1 rfl), if_neg hy, if_pos hl]
  rw [hv]
  refine ⟨.inr ⟨_, rfl, nz_who 20 fr, (show (20 : Int) ≠ 16 by decide), ?_, ?_⟩, .inl ⟨rfl, rfl⟩⟩
  · rw [appGEw (right_who 20 (.inl rfl) (by decide) (by omega)) (.inl rfl)]
    show (match some ({ t with yes := y } : TR) with | none => (6 : Int) | some t => saidE t _) = 0
    dsimp only
    unfold saidE
    dsimp only
    rw [h.s, if_neg (fun h1 => h1 rfl), if_neg (fun h1 => h1.elim (fun h2 => h2 hp) hy)]
  · rw [appGw (t := { t with yes := y }) ?_ (.inl rfl) rfl]
    · rfl
    · rw [appGEw (right_who 20 (.inl rfl) (by decide) (by omega)) (.inl rfl)]
      show (match some ({ t with yes := y } : TR) with | none => (6 : Int) | some t => saidE t _) = 0
      dsimp only
      unfold saidE
      dsimp only
      rw [h.s, if_neg (fun h1 => h1 rfl), if_neg (fun h1 => h1.elim (fun h2 => h2 hp) hy)]
theorem ev_com (h : T0 t) (hR : R = 0) (hp : fr ∈ t.parts) (hy : fr ∉ y) (hl : y.length + 1 = t.parts.length) : ES R (jV s t y) (planG (jV s t y) fr (voteN' 0)) told (jC s t y []) (told + 1) := by
  have hf := h.pb fr hp
  rw [plan_vote hf vr0]
  have hv : voteG (jV s t y) fr (voteN' 0) = ⟨[{ NA.zero with kind := 17, txn := t.txn, batch := t.batch, stamp := 1, parts := t.parts }], [], toldM { t with yes := y } 1 0, [goneN t.txn], toldM { t with yes := y } 0 8⟩ := by
    unfold voteG
    rw [show lkL (jV s t y).tr (voteN' 0).txn = some { t with yes := y } from rfl]
    dsimp only
    rw [if_neg (by rintro (h1 | h1); rw [h.s] at h1; cases h1; exact h1 hp), if_neg (fun h1 => h1 rfl), if_neg hy, if_neg (fun h1 => h1 hl)]
    rfl
  rw [hv]
  have hE : appGE (jV s t y) { NA.zero with kind := 17, txn := t.txn, batch := t.batch, stamp := 1, parts := t.parts } = 0 := by
    rw [appGE17 (right_com (by decide) (partsV_rise h.r fun x hx => by have := h.pb x hx; omega) h.pl) rfl]
    unfold comE
    dsimp only
    rw [if_neg (by decide), lkx h.x]
    dsimp only
    rw [h.s]; rfl
  refine ⟨.inr ⟨_, rfl, ⟨by show 0 ≤ t.txn; rw [h.x]; decide, by show t.txn < _; rw [h.x]; decide, (show (0 : Int) ≤ 1 by decide), Int.le_refl _, Int.le_refl _⟩, (show (17 : Int) ≠ 16 by decide), hE, ?_⟩, .inr ⟨_, _, _, rfl, h.w, by simp [hR], rfl, h.pl⟩⟩
  rw [appG17 hE rfl]
  dsimp only
  rw [lkx h.x]
  dsimp only [Option.getD_some]
  rw [put1 h.x, show putL ([] : List (Int × Int)) t.batch 1 = [(4, 1)] from by rw [h.b]; rfl]
  have hk : ({ t with yes := y, stamp := 1, acked := [] } : TR) = { ({ t with yes := y } : TR) with stamp := 1 } := by rw [← h.k]
  show (⟨s, 2, 0, 1, 1, [(1, ({ t with yes := y, stamp := 1, acked := [] } : TR))], [(4, 1)]⟩ : JG) = _
  rw [hk]
  rfl
theorem ev_no (h : T0 t) (hR : 0 < R) (hp : fr ∈ t.parts) : ES R (jV s t y) (planG (jV s t y) fr (voteN' 11)) told (jG s) (told + 1) := by
  have hf := h.pb fr hp
  rw [plan_vote hf vr1]
  have hv : voteG (jV s t y) fr (voteN' 11) = ⟨[], [goneN t.txn], toldM { t with yes := y } 0 11, [], []⟩ := by
    unfold voteG
    rw [show lkL (jV s t y).tr (voteN' 11).txn = some { t with yes := y } from rfl]
    dsimp only
    rw [if_neg (by rintro (h1 | h1); rw [h.s] at h1; cases h1; exact h1 hp), if_pos (by decide)]
  rw [hv, h.x]
  have hE : appGE (jV s t y) (goneN 1) = 0 := by
    rw [appGEe vr3 (.inr rfl)]
    show (match some ({ t with yes := y } : TR) with | none => (6 : Int) | some t => if decide (0 < t.stamp) ≠ decide ((22 : Int) = 18) then 10 else 0) = 0
    dsimp only
    rw [h.s]; rfl
  refine ⟨.inr ⟨_, rfl, ⟨(show (0 : Int) ≤ 1 by decide), (show (1 : Int) < 18446744073709551616 by decide), Int.le_refl _, Int.le_refl _, Int.le_refl _⟩, (show (22 : Int) ≠ 16 by decide), hE, ?_⟩, .inr ⟨_, _, _, rfl, h.w, ⟨fun h1 => (by cases h1), fun h1 => (by omega)⟩, rfl, h.pl⟩⟩
  rw [appGe hE (.inr rfl)]
  rfl
theorem ev_gone (c : Int) (hr : rightN (voteN' c) = true) (hf : 1 ≤ fr ∧ fr ≤ 4) : ES R (jG s) (planG (jG s) fr (voteN' c)) told (jG s) told := by
  rw [plan_vote hf hr]
  exact ⟨.inl ⟨rfl, rfl⟩, .inl ⟨rfl, rfl⟩⟩
theorem ea_gone (hf : 1 ≤ fr ∧ fr ≤ 4) : ES R (jG s) (planG (jG s) fr ackN') told (jG s) told := by
  rw [plan_ack hf]
  exact ⟨.inl ⟨rfl, rfl⟩, .inl ⟨rfl, rfl⟩⟩
theorem ea_ack (h : T0 t) (hp : fr ∈ t.parts) (hk : fr ∉ k) (hl : k.length + 1 ≠ t.parts.length) : ES R (jC s t y k) (planG (jC s t y k) fr ackN') told (jC s t y (putI k fr)) told := by
  have hf := h.pb fr hp
  rw [plan_ack hf]
  have hv : ackG (jC s t y k) fr ackN' = ⟨[], [{ NA.zero with kind := 21, txn := 1, who := fr }], [], [], []⟩ := by
    unfold ackG
    rw [show lkL (jC s t y k).tr ackN'.txn = some { t with yes := y, stamp := 1, acked := k } from rfl]
    dsimp only
    rw [if_neg (by rintro (h1 | h1 | h1); cases h1; exact h1 hp; exact hk h1), if_pos hl]
  have hE : appGE (jC s t y k) { NA.zero with kind := 21, txn := 1, who := fr } = 0 := by
    rw [appGEw (right_who 21 (.inr rfl) (by decide) (by omega)) (.inr rfl)]
    show (match some ({ t with yes := y, stamp := 1, acked := k } : TR) with | none => (6 : Int) | some t => saidE t _) = 0
    dsimp only
    unfold saidE
    dsimp only
    rw [if_neg (fun h1 => h1 rfl), if_neg (fun h1 => h1.elim (fun h2 => h2 hp) hk)]
  rw [hv]
  refine ⟨.inr ⟨_, rfl, nz_who 21 fr, (show (21 : Int) ≠ 16 by decide), hE, ?_⟩, .inl ⟨rfl, rfl⟩⟩
  rw [appGw (t := { t with yes := y, stamp := 1, acked := k }) hE (.inr rfl) rfl]
  rfl
theorem ea_end (h : T0 t) (hp : fr ∈ t.parts) (hk : fr ∉ k) (hl : k.length + 1 = t.parts.length) : ES R (jC s t y k) (planG (jC s t y k) fr ackN') told (jF s) told := by
  have hf := h.pb fr hp
  rw [plan_ack hf]
  have hv : ackG (jC s t y k) fr ackN' = ⟨[{ NA.zero with kind := 18, txn := 1 }], [], [], [], []⟩ := by
    unfold ackG
    rw [show lkL (jC s t y k).tr ackN'.txn = some { t with yes := y, stamp := 1, acked := k } from rfl]
    dsimp only
    rw [if_neg (by rintro (h1 | h1 | h1); cases h1; exact h1 hp; exact hk h1), if_neg (fun h1 => h1 hl)]
  have hE : appGE (jC s t y k) { NA.zero with kind := 18, txn := 1 } = 0 := by
    rw [appGEe vr4 (.inl rfl)]
    rfl
  rw [hv]
  refine ⟨.inr ⟨_, rfl, ⟨(show (0 : Int) ≤ 1 by decide), (show (1 : Int) < 18446744073709551616 by decide), Int.le_refl _, Int.le_refl _, Int.le_refl _⟩, (show (18 : Int) ≠ 16 by decide), hE, ?_⟩, .inl ⟨rfl, rfl⟩⟩
  rw [appGe hE (.inl rfl)]
  rfl
end
inductive EVt (s : Int) (t : TR) (ps : List Int) (R i : Nat) : JG → Int → Prop
  | vote (y : List Int) (hi : i < t.parts.length) (hR : R = 0 ∨ i < R) (hy : ∀ q, q ∈ y ↔ q ∈ ps.take i) (hl : y.length = i) : EVt s t ps R i (jV s t y) 0
  | com (y : List Int) (hi : i = t.parts.length) (hR : R = 0) : EVt s t ps R i (jC s t y []) 1
  | gone (hR : 0 < R) (hi : R ≤ i) : EVt s t ps R i (jG s) 1
inductive EAt (s : Int) (t : TR) (ps : List Int) (R i : Nat) : JG → Int → Prop
  | ack (y k : List Int) (hi : i < t.parts.length) (hR : R = 0) (hk : ∀ q, q ∈ k ↔ q ∈ ps.take i) (hl : k.length = i) : EAt s t ps R i (jC s t y k) 1
  | done (hi : i = t.parts.length) (hR : R = 0) : EAt s t ps R i (jF s) 1
  | gone (hR : 0 < R) : EAt s t ps R i (jG s) 1
theorem take_mem {ps : List Int} (hn : ps.Nodup) {i : Nat} {fr : Int} (hf : ps[i]? = some fr) : fr ∉ ps.take i := by
  intro h
  obtain ⟨k, hk, e⟩ := List.getElem_of_mem h
  rw [List.length_take] at hk
  rw [List.getElem_take] at e
  have hi := (List.getElem?_eq_some_iff.1 hf).1
  have he := (List.getElem?_eq_some_iff.1 hf).2
  have := List.pairwise_iff_getElem.1 hn k i (by omega) hi (by omega)
  exact this (e.trans he.symm)
theorem EVt.step {s : Int} {t : TR} {ps : List Int} {R i : Nat} {j : JG} {told fr : Int} (h : T0 t) (hp : ps.Perm t.parts) (hv : EVt s t ps R i j told) (hRl : R ≤ t.parts.length) (hi : i < t.parts.length) (hf : ps[i]? = some fr) :
    ∃ j' told', ES R j (planG j fr (voteN' (if i + 1 = R then 11 else 0))) told j' told' ∧ EVt s t ps R (i + 1) j' told' := by
  have hm : fr ∈ t.parts := hp.mem_iff.1 (List.mem_of_getElem? hf)
  have hn : ps.Nodup := hp.nodup_iff.2 (rise_nodup h.r)
  cases hv with
  | vote y _ hR hy hl =>
    have hfy : fr ∉ y := fun e => take_mem hn hf ((hy fr).1 e)
    by_cases hr : i + 1 = R
    · rw [if_pos hr]
      exact ⟨_, _, ev_no h (by omega) hm, .gone (by omega) (by omega)⟩
    · rw [if_neg hr]
      by_cases hc : y.length + 1 = t.parts.length
      · have hR0 : R = 0 ∨ i + 1 < R := by omega
        by_cases hRz : R = 0
        · exact ⟨_, _, ev_com h hRz hm hfy hc, .com y (by omega) hRz⟩
        · omega
      · refine ⟨_, _, ev_yes h hm hfy hc, .vote _ (by omega) (by omega) (fun q => ?_) (by rw [putI_len, hl])⟩
        rw [putI_mem, take_snoc hf, List.mem_append, List.mem_singleton, hy q]
        exact Or.comm
  | com y hi2 hR => omega
  | gone hR hR2 =>
    have hr : rightN (voteN' (if i + 1 = R then 11 else 0)) = true := by
      split
      · exact vr1
      · exact vr0
    exact ⟨_, _, ev_gone _ hr (h.pb fr hm), .gone hR (by omega)⟩
theorem EAt.step {s : Int} {t : TR} {ps : List Int} {R i : Nat} {j : JG} {told fr : Int} (h : T0 t) (hp : ps.Perm t.parts) (hv : EAt s t ps R i j told) (hi : i < t.parts.length) (hf : ps[i]? = some fr) :
    ∃ j' told', ES R j (planG j fr ackN') told j' told' ∧ EAt s t ps R (i + 1) j' told' := by
  have hm : fr ∈ t.parts := hp.mem_iff.1 (List.mem_of_getElem? hf)
  have hn : ps.Nodup := hp.nodup_iff.2 (rise_nodup h.r)
  cases hv with
  | ack y k _ hR hk hl =>
    have hfk : fr ∉ k := fun e => take_mem hn hf ((hk fr).1 e)
    by_cases hc : k.length + 1 = t.parts.length
    · exact ⟨_, _, ea_end h hm hfk hc, .done (by omega) hR⟩
    · refine ⟨_, _, ea_ack h hm hfk hc, .ack y _ (by omega) hR (fun q => ?_) (by rw [putI_len, hl])⟩
      rw [putI_mem, take_snoc hf, List.mem_append, List.mem_singleton, hk q]
      exact Or.comm
  | done hi2 hR => omega
  | gone hR => exact ⟨_, _, ea_gone (h.pb fr hm), .gone hR⟩
end Go.Proofs.YtiampehfpgcogaaDoor
namespace Go.Proofs.YtiampehfpgcogaaDoor
open Go Go.SX
attribute [local irreducible] swp opsS thenS blockS retS CallsS St Ent YieldS anyS drawS
attribute [local irreducible] opsI
theorem KeysG_spec {α : Type} (rr : α → Value) (bm b : Nat) (m : List (Int × α)) (A : List HP) : SeqS Tryd.prog 60 [.pointer (some ⟨bm, 0, none⟩)] U64 m.length (fun ks => ks.Perm (m.map (·.1)))
    (pt bm (cl [.map (some b)] 63) :: mpO U64 rr b m :: A) (mpO U64 rr b m :: A) := by
  intro l J hJ
  refine CallsS.of_body Tryd.func60 rfl rfl rfl ?_
  refine Q.r ?_; (repeat (intro b1; refine Q.r ?_))
  refine S.rg rfl (fun r => ?_)
  refine Q.r ?_; (repeat (intro b1; refine Q.r ?_))
  refine swp_loop (σ := List Nat) (fun vis => [(0, .func (.yield l) #[] #[]), (5, .pointer (some ⟨r, 0, none⟩))])
    (fun vis => J (vis.filterMap fun i => (m[i]?).map (·.1)) :: itO U64 rr b r m vis :: A) (fun vis => vis.Nodup ∧ ∀ i ∈ vis, i < m.length) (fun vis => m.length - vis.length) [] ⟨rfl, rfl, trivial⟩ (by simp only [List.filterMap_nil]; exact Go.SX.Ent.go) ⟨by simp, by simp⟩ ?_
  rintro vis ⟨hv1, hv2⟩
  refine Q.r ?_; (repeat (intro b1; refine Q.r ?_))
  refine S.nx rfl (fun hend => ?_) (fun i p hp hi => ?_)
  · refine Q.r ?_; (repeat (intro b1; refine Q.r ?_))
    exact N.n0 RV.nil (Ent.cons itO_map) ⟨_, vis_map _ hv1 hv2 hend, rfl⟩
  · have hil : i < m.length := (List.getElem?_eq_some_iff.1 hp).1
    obtain ⟨hm1, hm2, hm3⟩ := vis_more hv1 hv2 hil hi
    have hvl : (vis.filterMap fun i => (m[i]?).map (·.1)).length ≤ vis.length := List.length_filterMap_le _ _
    have happ : ((vis ++ [i]).filterMap fun i => (m[i]?).map (·.1)) = (vis.filterMap fun i => (m[i]?).map (·.1)) ++ [p.1] := by
      rw [List.filterMap_append]; simp [hp]
    refine Q.r ?_; (repeat (intro b1; refine Q.r ?_))
    refine S.y (Y.en rfl hp) ?_
    refine S.y (Y.ext rfl rfl) ?_
    refine S.y (Y.as rfl) ?_
    refine opsS_nil ?_
    refine N.tn ?_
    refine swp_seq ?_
    refine swp_regionI ?_
    refine opsI_one (fun _ h => by cases h) rfl ?_
    refine Q.r ?_; (repeat (intro b1; refine Q.r ?_))
    refine opsI_one (fun _ h => by cases h) rfl ?_
    refine Q.r ?_; (repeat (intro b1; refine Q.r ?_))
    refine opsI_yield rfl rfl ((hJ _ p.1 (by omega)).frame (R := _)) ?_
    refine opsI_one (fun _ h => by cases h) rfl ?_
    refine Q.r ?_; (repeat (intro b1; refine Q.r ?_))
    refine opsI_nil ?_
    refine Q.r ?_; (repeat (intro b1; refine Q.r ?_))
    refine ⟨vis ++ [i], ⟨rfl, rfl, trivial⟩, ?_, ⟨hm1, hm2⟩, by simp; omega⟩
    rw [happ]
    exact Go.SX.Ent.go
theorem MapKeysG_spec (mo : Option Nat) (L : List HP) : CallsS Tryd.prog 46 [.map mo] L
    (fun v L' => ∃ bm, v = .func (.func 60) #[] [.pointer (some ⟨bm, 0, none⟩)].toArray ∧ L' = pt bm (cl [.map mo] 63) :: L) := by
  refine CallsS.of_body Tryd.func46 rfl rfl rfl ?_
  refine Q.r ?_; (repeat (intro b1; refine Q.r ?_))
  refine S.y (Y.mf rfl rfl) ?_
  refine Q.r ?_; (repeat (intro b1; refine Q.r ?_))
  exact N.r1 (RV.tmp rfl RV.nil) (Ent.refl _) ⟨_, rfl, rfl⟩
theorem Gtxns_spec (M : Nat → Option Obj) (p : Nat) (j : JG) (L : List HP) (hn : j.tr.length ≤ 1000000) :
    CallsS Tryd.prog 27 [ptrG p] (jdgH M p j :: L) (fun r L' => ∃ a c, r = .slice a j.tr.length c ∧ L' = slO 30 1 a j.tr.length c ((sortL (j.tr.map (·.1))).map U64) :: jdgH M p j :: L) := by
  refine calls_jdg fun mt md ts hq => ?_
  have hlen : j.tr.length = ts.length := by rw [← hq.tr, List.length_map]
  have hkeys : j.tr.map (·.1) = ts.map (·.1) := by rw [← hq.tr, List.map_map]; rfl
  rw [hlen, hkeys]
  rw [hlen] at hn
  refine CallsS.of_body Tryd.func27 rfl rfl rfl ?_
  refine Q.r ?_; (repeat (intro b1; refine Q.r ?_))
  refine S.cr rfl (MapKeysG_spec (some mt) _) ?_
  rintro _ _ ⟨bm, rfl, rfl⟩
  refine Q.r ?_; (repeat (intro b1; refine Q.r ?_))
  refine opsS_ent (L' := pt bm (cl [.map (some mt)] 63) :: gT mt ts :: gP p j mt md :: trsH ts :: gD md j.done :: L) (by exact Go.SX.Ent.go) ?_
  have hs := KeysG_spec ptT bm mt ts (gP p j mt md :: trsH ts :: gD md j.done :: L)
  refine S.cr rfl (Sorted_spec _ _ (ts.map (·.1)) _ _ (by rw [List.length_map]; omega) (by rw [List.length_map]; exact hs)) ?_
  rintro _ _ ⟨a, c, rfl, rfl⟩
  refine Q.r ?_; (repeat (intro b1; refine Q.r ?_))
  rw [List.length_map]
  refine N.r1 (RV.tmp rfl RV.nil) (Ent.cons ?_) ⟨a, c, rfl, rfl⟩
  exact Ent.trans (M := gP p j mt md :: gT mt ts :: trsH ts :: gD md j.done :: L) (by exact Go.SX.Ent.go) (jdg_shut hq)
theorem GTrials0_spec (M : Nat → Option Obj) (p : Nat) (j : JG) (L : List HP) (h0 : j.tr = []) :
    CallsS Tryd.prog 12 [ptrG p] (jdgH M p j :: L) (fun r L' => r = .slice none 0 0 ∧ L' = jdgH M p j :: L) := by
  have hl : j.tr.length = 0 := by rw [h0]; rfl
  refine CallsS.of_body Tryd.func12 rfl rfl rfl ?_
  refine Q.r ?_; (repeat (intro b1; refine Q.r ?_))
  refine S.cgn p rfl (Gtxns_spec M p j _ (by omega)) ?_
  rintro _ _ ⟨a, c, rfl, rfl⟩
  rw [hl]
  refine Q.r ?_; (repeat (intro b1; refine Q.r ?_))
  refine swp_loop (σ := Unit) (fun _ => [(0, ptrG p), (3, .slice none 0 0), (11, .int .i64 (0 : Nat)), (12, .int .i64 (0 : Nat))]) (fun _ => jdgH M p j :: L) (fun _ => True) (fun _ => 0) () ⟨rfl, rfl, rfl, rfl, trivial⟩ (by exact Go.SX.Ent.go) trivial ?_
  rintro _ _
  refine Q.r ?_; (repeat (intro b1; refine Q.r ?_))
  exact N.r1 (RV.tmp rfl RV.nil) (Ent.refl _) ⟨rfl, rfl⟩
theorem GWake0_spec (M : Nat → Option Obj) (p : Nat) (j : JG) (L : List HP) (h0 : j.tr = []) :
    CallsS Tryd.prog 13 [ptrG p] (jdgH M p j :: L) (fun r L' => r = .slice none 0 0 ∧ L' = jdgH M p j :: L) := by
  have hl : j.tr.length = 0 := by rw [h0]; rfl
  refine CallsS.of_body Tryd.func13 rfl rfl rfl ?_
  refine Q.r ?_; (repeat (intro b1; refine Q.r ?_))
  refine S.cgn p rfl (Gtxns_spec M p j _ (by omega)) ?_
  rintro _ _ ⟨a, c, rfl, rfl⟩
  rw [hl]
  refine Q.r ?_; (repeat (intro b1; refine Q.r ?_))
  refine swp_loop (σ := Unit) (fun _ => [(0, ptrG p), (3, .slice none 0 0), (13, .int .i64 (0 : Nat)), (14, .int .i64 (0 : Nat))]) (fun _ => jdgH M p j :: L) (fun _ => True) (fun _ => 0) () ⟨rfl, rfl, rfl, rfl, trivial⟩ (by exact Go.SX.Ent.go) trivial ?_
  rintro _ _
  refine Q.r ?_; (repeat (intro b1; refine Q.r ?_))
  exact N.r1 (RV.tmp rfl RV.nil) (Ent.refl _) ⟨rfl, rfl⟩
end Go.Proofs.YtiampehfpgcogaaDoor
namespace Go.Proofs.YtiampehfpgcogaaDoor
open Go Go.SX
attribute [local irreducible] swp opsS thenS blockS retS CallsS St Ent YieldS anyS drawS
attribute [local irreducible] ar
abbrev U8 : Int → Value := Value.int .u8
theorem right_ask {l : VL} (hl : l.length ≤ 16) (hb : l.any badOp = false) : rightN { NA.zero with kind := 1, batch := 4, ops := l } = true := by
  unfold rightN boundN NA.bits NA.zero bareV
  have hl3 : ¬ (16 < l.length) := by omega
  dsimp only
  rw [hb]
  simp only [hl3]
  by_cases h5 : 0 < (l.length : Int) <;> simp [h5, List.zipIdx, fldN, partsV] <;> first | done | decide | (repeat' (first | rfl | exact .inr rfl | (refine And.intro ?_ ?_)))
structure AskOK (l : VL) : Prop where
  n0 : l ≠ []
  n1 : l.length ≤ 16
  nd : (l.map (·.1)).Nodup
  v : ∀ o ∈ l, (0 ≤ o.1 ∧ o.1 < 50) ∧ ∃ i : Int, (0 ≤ i ∧ i < 16) ∧ o.2 = [1, i]
theorem AskOK.vec {l : VL} (h : AskOK l) {o : Int × List Int} (ho : o ∈ l) : rightV o.2 = true ∧ o.2.length = 2 := by
  obtain ⟨_, i, hi, e⟩ := h.v o ho
  rw [e]
  refine ⟨?_, rfl⟩
  unfold rightV
  simp [badC]
  omega
abbrev askA (l : VL) : NA := { NA.zero with kind := 1, batch := 4, ops := l }
abbrev askR (s : Int) (l : VL) : TR := newT (JG0 s 2) 9 (askA l)
theorem AskOK.right {l : VL} (h : AskOK l) : rightN (askA l) = true := by
  refine right_ask h.n1 (List.any_eq_false.2 fun o ho => ?_)
  have h1 := h.vec ho
  have h2 := (h.v o ho).1
  unfold badOp bareV
  rw [h1.1]
  simp
  omega
theorem AskOK.check {l : VL} (h : AskOK l) : checkV 2 l = 0 := by
  unfold checkV
  have h0 : l.length ≠ 0 := fun e => h.n0 (List.eq_nil_of_length_eq_zero e)
  have h1 := h.n1
  rw [if_neg (by decide), if_neg h0, if_neg (by omega), if_neg ?_, if_pos h.nd]
  rw [List.any_eq_true]
  rintro ⟨o, ho, hb⟩
  have h3 := h.vec ho
  have h4 := (h.v o ho).1
  unfold badO at hb
  rw [h3.1, h3.2] at hb
  simp at hb
  omega
theorem AskOK.t0 {l : VL} (h : AskOK l) {s : Int} (s1 : 1 ≤ s) (s2 : s ≤ 4) : T0 (askR s l) := by
  have hp := partsG_ok s1 l
  have hl := rise_len hp.1 hp.2 (by omega)
  exact ⟨rfl, rfl, rfl, rfl, hp.1, fun q hq => by have := hp.2 q hq; omega, by show (partsG s l).length ≤ 4; omega, List.length_pos_iff.2 (partsG_ne h.n0), rfl⟩
theorem AskOK.plan {l : VL} (h : AskOK l) (s : Int) : planG (JG0 s 2) 9 (askA l) = ⟨[], [beginN (askR s l)], (askR s l).parts.map (prepM s (askR s l)), [], []⟩ := by
  unfold planG
  rw [if_neg (by rintro (h1 | h1 | h1); rw [h.right] at h1; cases h1; omega; omega), if_pos rfl]
  unfold askG
  rw [show lkL (JG0 s 2).done (askA l).batch = none from rfl]
  dsimp only
  rw [if_neg (by simp)]
  have hE : askE (JG0 s 2) (askA l) = 0 := by
    unfold askE
    rw [if_neg (fun h1 => h1 h.check), if_neg (by simp)]
  rw [if_neg (fun h1 => h1 hE)]
theorem AskOK.rb {l : VL} (h : AskOK l) {s : Int} (s1 : 1 ≤ s) (s2 : s ≤ 4) : rightN (beginN (askR s l)) = true := by
  have ht := h.t0 s1 s2
  refine right_beg (by show (0 : Int) ≤ 1099511627776; decide) (by show (0 : Int) ≤ 9 ∧ (9 : Int) < 16; decide) (partsV_rise ht.r fun x hx => by have := ht.pb x hx; omega) ht.pl ?_ h.n1
  exact (right_opsG h.right).1
theorem AskOK.app {l : VL} (h : AskOK l) {s : Int} (s1 : 1 ≤ s) (s2 : s ≤ 4) : appGE (JG0 s 2) (beginN (askR s l)) = 0 ∧ appG (JG0 s 2) (beginN (askR s l)) = jV s (askR s l) [] := by
  have hE : appGE (JG0 s 2) (beginN (askR s l)) = 0 := by
    rw [appGE19 (h.rb s1 s2) rfl]; rfl
  refine ⟨hE, ?_⟩
  rw [appG19 hE rfl]
  rfl
def EE (s : Int) (t : TR) (ps : List Int) (R r i : Nat) (j : JG) (told : Int) : Prop := if r = 0 then EVt s t ps R i j told else EAt s t ps R i j told
def msgE (R r i : Nat) : NA := if r = 1 then ackN' else voteN' (if i + 1 = R then 11 else 0)
def E0 (s : Int) (t : TR) (R r : Nat) (j : JG) (told : Int) : Prop :=
  if r = 0 then j = jV s t [] ∧ told = 0 else if r = 1 then told = 1 ∧ ((R = 0 ∧ ∃ y, j = jC s t y []) ∨ (0 < R ∧ j = jG s)) else told = 1 ∧ ((R = 0 ∧ j = jF s) ∨ (0 < R ∧ j = jG s))
theorem E0.start {s : Int} {t : TR} {R r : Nat} {j : JG} {told : Int} (h : E0 s t R r j told) (hr : r < 2) (ht : T0 t) (ps : List Int) : EE s t ps R r 0 j told := by
  unfold E0 at h
  unfold EE
  have h2 : r = 0 ∨ r = 1 := by omega
  rcases h2 with rfl | rfl
  · rw [if_pos rfl] at h ⊢
    rw [h.1, h.2]
    exact .vote [] ht.p0 (by omega) (by simp) rfl
  · rw [if_neg (by decide), if_pos rfl] at h
    rw [if_neg (by decide)]
    rcases h with ⟨rfl, ⟨hR, y, rfl⟩ | ⟨hR, rfl⟩⟩
    · exact .ack y [] ht.p0 hR (by simp) rfl
    · exact .gone hR
theorem EE.stop {s : Int} {t : TR} {ps : List Int} {R r : Nat} {j : JG} {told : Int} (h : EE s t ps R r t.parts.length j told) (hr : r < 2) (hRl : R ≤ t.parts.length) : E0 s t R (r + 1) j told := by
  unfold EE at h
  unfold E0
  have h2 : r = 0 ∨ r = 1 := by omega
  rcases h2 with rfl | rfl
  · rw [if_pos rfl] at h
    rw [if_neg (by decide), if_pos rfl]
    cases h with
    | vote y hi _ _ _ => omega
    | com y _ hR => exact ⟨rfl, .inl ⟨hR, y, rfl⟩⟩
    | gone hR _ => exact ⟨rfl, .inr ⟨hR, rfl⟩⟩
  · rw [if_neg (by decide)] at h
    rw [if_neg (by decide), if_neg (by decide)]
    cases h with
    | ack y k hi _ _ _ => omega
    | done _ hR => exact ⟨rfl, .inl ⟨hR, rfl⟩⟩
    | gone hR => exact ⟨rfl, .inr ⟨hR, rfl⟩⟩
theorem EE.step {s : Int} {t : TR} {ps : List Int} {R r i : Nat} {j : JG} {told fr : Int} (h : T0 t) (hp : ps.Perm t.parts) (hr : r < 2) (hv : EE s t ps R r i j told) (hRl : R ≤ t.parts.length) (hi : i < t.parts.length) (hf : ps[i]? = some fr) :
    ∃ j' told', ES R j (planG j fr (msgE R r i)) told j' told' ∧ EE s t ps R r (i + 1) j' told' := by
  unfold EE at hv ⊢
  unfold msgE
  have h2 : r = 0 ∨ r = 1 := by omega
  rcases h2 with rfl | rfl
  · rw [if_pos rfl] at hv
    rw [if_neg (by decide)]
    simp only [if_true]
    exact EVt.step h hp hv hRl hi hf
  · rw [if_neg (by decide)] at hv
    rw [if_pos rfl]
    simp only [Nat.one_ne_zero, if_false]
    exact EAt.step h hp hv hi hf
theorem EE.told {s : Int} {t : TR} {ps : List Int} {R r i : Nat} {j : JG} {told : Int} (h : EE s t ps R r i j told) : 0 ≤ told ∧ told ≤ 1 := by
  unfold EE at h
  split at h
  · cases h <;> omega
  · cases h <;> omega
theorem msgE_abs (R r i : Nat) : (NA.nv (msgE R r i)).abs = msgE R r i := by
  unfold msgE
  split <;> rfl
theorem msgE_kind (R r i : Nat) : 0 ≤ (NA.nv (msgE R r i)).kind ∧ (NA.nv (msgE R r i)).kind ≤ 255 := by
  unfold msgE
  split
  · show (0 : Int) ≤ 6 ∧ (6 : Int) ≤ 255; decide
  · show (0 : Int) ≤ 4 ∧ (4 : Int) ≤ 255; decide
theorem toldM_cnt (t : TR) (s c : Int) : (toldM t s c).countP (fun m => decide (m.2.kind = 2)) = 1 := by
  unfold toldM
  rw [List.countP_append, List.countP_map]
  have : (fun p => decide (p = true)) = id := by funext b; cases b <;> rfl
  have e : List.countP ((fun m : Int × NA => decide (m.2.kind = 2)) ∘ fun p => decM p t.txn s c) t.parts = 0 := List.countP_eq_zero.2 fun q _ => by
    show ¬ decide ((5 : Int) = 2) = true
    decide
  rw [e]; rfl
theorem ES.mails {R : Nat} {j j' : JG} {pl : PG} {told told' : Int} (h : ES R j pl told j' told') : (∀ m ∈ pl.mail, m.2.kind = 2 → m.1 = 9 ∧ (m.2.code = 0 ↔ R = 0)) ∧ told' = told + ((pl.mail.countP fun m => decide (m.2.kind = 2) : Nat) : Int) ∧ pl.mail.length ≤ 5 := by
  rcases h.m with ⟨h1, h2⟩ | ⟨t, s, c, h1, hw, hc, h2, hl⟩
  · rw [h1]
    exact ⟨fun _ h => (by cases h), by rw [h2]; simp, Nat.zero_le _⟩
  · rw [h1]
    refine ⟨fun m hm hk => ?_, by rw [toldM_cnt, h2]; rfl, by rw [toldM_len]; omega⟩
    unfold toldM at hm
    rcases List.mem_append.1 hm with hm | hm
    · obtain ⟨q, _, rfl⟩ := List.mem_map.1 hm
      cases hk
    · rw [List.mem_singleton] at hm; subst hm
      exact ⟨hw, hc⟩
theorem NV_one (xs : List NV) : (xs.flatMap NV.cells).all (·.oneCell') = true := by
  rw [List.all_eq_true]
  intro v hv
  obtain ⟨o, _, ho⟩ := List.mem_flatMap.1 hv
  simp only [NV.cells, List.mem_cons, List.mem_nil_iff, or_false] at ho
  rcases ho with rfl | rfl | rfl | rfl | rfl | rfl | rfl | rfl | rfl | rfl | rfl | rfl | rfl | rfl | rfl | rfl <;> rfl
theorem swp_toPerm {d : Array Int} {i j : Nat} (hi : i < d.size) (hj : j < d.size) : (Sort.swp d i j).toList.Perm d.toList := by
  have h := Sort.swp_permIn d 0 d.size i j (Nat.zero_le _) hi (Nat.zero_le _) hj (Nat.le_refl _)
  have h1 := h.1
  have h2 := h.2.2
  rw [← h1] at h2
  rw [Array.extract_size] at h2
  rw [h1, Array.extract_size] at h2
  exact h2
end Go.Proofs.YtiampehfpgcogaaDoor
namespace Go.Proofs.YtiampehfpgcogaaDoor
open Go Go.SX
attribute [local irreducible] swp opsS thenS blockS retS CallsS St Ent YieldS anyS drawS
attribute [local irreducible] ar
structure GA (l : VL) (seen : List (Int × Bool)) (k : Nat) : Prop where
  n : l.length ≤ k
  n1 : l.length ≤ 16
  nd : (l.map (·.1)).Nodup
  v : ∀ o ∈ l, (0 ≤ o.1 ∧ o.1 < 50) ∧ ∃ i : Int, (0 ≤ i ∧ i < 16) ∧ o.2 = [1, i]
  s : ∀ o ∈ l, lkL seen o.1 = some true
  t : ∀ x b, lkL seen x = some b → b = true
theorem GA.skip {l : VL} {seen : List (Int × Bool)} {k : Nat} (h : GA l seen k) : GA l seen (k + 1) := ⟨Nat.le_succ_of_le h.n, h.n1, h.nd, h.v, h.s, h.t⟩
theorem GA.add {l : VL} {seen : List (Int × Bool)} {k : Nat} (h : GA l seen k) (hs : keysOK seen) {x : Int} (hx : 0 ≤ x ∧ x < 50) (hk : k < 16) (hz : lkL seen x = none) : GA (l ++ [(x, [1, (k : Int)])]) (putL seen x true) (k + 1) := by
  have hn := h.n
  refine ⟨by rw [List.length_append, List.length_singleton]; omega, by rw [List.length_append, List.length_singleton]; omega, ?_, fun o ho => ?_, fun o ho => ?_, fun y b hy => ?_⟩
  · rw [List.map_append]
    refine List.nodup_append.2 ⟨h.nd, by simp, fun y hy z hz' => ?_⟩
    obtain ⟨o, ho, rfl⟩ := List.mem_map.1 hy
    rw [List.map_cons, List.map_nil, List.mem_singleton] at hz'
    subst hz'
    intro e
    have := h.s o ho
    rw [e, hz] at this
    cases this
  · rcases List.mem_append.1 ho with ho | ho
    · exact h.v o ho
    · rw [List.mem_singleton] at ho; subst ho
      exact ⟨hx, k, by omega, rfl⟩
  · rw [lkL_put hs]
    rcases List.mem_append.1 ho with ho | ho
    · split
      · rfl
      · exact h.s o ho
    · rw [List.mem_singleton] at ho; subst ho
      rw [if_pos rfl]
  · rw [lkL_put hs] at hy
    split at hy
    · injection hy with hy; exact hy.symm
    · exact h.t y b hy
theorem GA.ok {l : VL} {seen : List (Int × Bool)} {k : Nat} (h : GA l seen k) (h0 : l.length ≠ 0) : AskOK l := ⟨fun e => h0 (by rw [e]; rfl), h.n1, h.nd, h.v⟩
set_option maxHeartbeats 8000000 in
theorem JudgeEnds_spec (sh no : Int) (hsh : 0 ≤ sh ∧ sh ≤ 255) (hno : 0 ≤ no ∧ no ≤ 255) (a0 : Option Addr) (c0 : Nat) (xs : List OV) (ao : Option Addr) (co : Nat) (os : List Int) (M : Nat → Option Obj)
    (h : SlM M a0 xs.length 2 (xs.flatMap OV.cells)) (hx : ∀ o ∈ xs, 0 ≤ o.id) (hn : xs.length ≤ 9223372036854775807) (ho : SlM M ao os.length 1 (os.map U8)) (hob : ∀ o ∈ os, 0 ≤ o ∧ o ≤ 255) (hon : os.length ≤ 9223372036854775807) (hT : TabM M) :
    CallsS Tryd.prog 4 [.int .u8 sh, .slice a0 xs.length c0, .int .u8 no, .slice ao os.length co] [roM M] (fun r _ => r = .bool true) := by
  obtain ⟨s, hs⟩ : ∃ s, s = 1 + sh % 4 := ⟨_, rfl⟩
  have s1 : 1 ≤ s := by omega
  have s2 : s ≤ 4 := by omega
  refine CallsS.of_body Tryd.func4 rfl rfl rfl ?_
  refine Q.r ?_; (repeat (intro b1; refine Q.r ?_))
  refine S.cr rfl (Gawake_spec M _ hT) ?_
  rintro _ _ ⟨M1, rfl, hl1, rfl⟩
  refine Q.r ?_; (repeat (intro b1; refine Q.r ?_))
  refine S.y (Y.rem rfl rfl (by decide)) ?_
  rw [show sh.tmod 4 = sh % 4 from Int.tmod_eq_emod_of_nonneg hsh.1]
  refine S.y (Y.cvi rfl) ?_
  rw [wrap_i64 (by omega) (by omega)]
  refine Q.r ?_; (repeat (intro b1; refine Q.r ?_))
  rw [← hs]
  refine S.cr rfl (GNew_spec M1 s 2 _ s1 s2 (by decide) (by decide)) ?_
  rintro _ _ ⟨p, rfl, rfl⟩
  refine Q.r ?_; (repeat (intro b1; refine Q.r ?_))
  refine S.mkm U64 Value.bool (fun mm => ?_)
  refine Q.r ?_; (repeat (intro b1; refine Q.r ?_))
  refine swp_cutB (σ := Option Addr × Nat × List OV) (fun t => [(2, .int .u8 no), (3, .slice ao os.length co), (10, ptrG p), (12, .slice t.1 t.2.2.length t.2.1)])
    (fun t => slO 57 2 t.1 t.2.2.length t.2.1 (t.2.2.flatMap OV.cells) :: vecsH t.2.2 :: jdgH M1 p (JG0 s 2) :: roM M1 :: []) (fun t => t.2.2.length ≤ 16 ∧ (t.2.2.length ≠ 0 → AskOK (t.2.2.map OV.abs))) ?_ ?_
  · refine swp_loop (σ := Nat × List (Int × Bool) × Option Addr × Nat × List OV) (fun t => [(2, .int .u8 no), (3, .slice ao os.length co), (10, ptrG p), (13, .map (some mm)), (47, .slice a0 xs.length c0), (48, .int .i64 xs.length), (12, .slice t.2.2.1 t.2.2.2.2.length t.2.2.2.1), (49, .int .i64 t.1)])
      (fun t => slO 57 2 t.2.2.1 t.2.2.2.2.length t.2.2.2.1 (t.2.2.2.2.flatMap OV.cells) :: vecsH t.2.2.2.2 :: mpO U64 Value.bool mm t.2.1 :: jdgH M1 p (JG0 s 2) :: roM M1 :: [])
      (fun t => t.1 ≤ xs.length ∧ GA (t.2.2.2.2.map OV.abs) t.2.1 t.1) (fun t => xs.length - t.1) (0, [], none, 0, []) ⟨rfl, rfl, rfl, rfl, rfl, rfl, rfl, rfl, trivial⟩ (Ent.trans bodV_nil (Ent.trans slO_nil (by exact Go.SX.Ent.go))) ⟨by omega, ⟨Nat.zero_le _, Nat.zero_le _, List.nodup_nil, fun _ h => (by cases h), fun _ h => (by cases h), fun _ _ h => (by cases h)⟩⟩ ?_
    rintro ⟨k, seen, a3, c3, us⟩ ⟨hk, hg⟩
    dsimp only at hk hg ⊢
    by_cases hlt : k < xs.length
    · obtain ⟨o, ho1⟩ := mem_get hlt
      obtain ⟨b, oo, hab, cr⟩ := SlM.cm (g := OV.cells) (fun _ => rfl) (h.mono hl1) ho1 rfl
      rw [hab]
      have hid := hx o (List.mem_of_getElem? ho1)
      refine Q.r ?_; (repeat (intro b1; refine Q.r ?_))
      refine S.y (Y.rem rfl rfl (by decide)) ?_
      rw [show o.id.tmod 50 = o.id % 50 from Int.tmod_eq_emod_of_nonneg hid]
      refine mp_keys (g := U64) (r := Value.bool) (b := mm) (m := seen) (fun hks => ?_)
      by_cases h16 : k < 16
      · refine Q.r ?_; (repeat (intro b1; refine Q.r ?_))
        refine S.y (Y.lk false rfl rfl (fun w => Tryd.zeroValue4 w)) ?_
        cases hz : lkL seen (o.id % 50) with
        | some bv =>
          obtain rfl := hg.t _ _ hz
          dsimp only
          refine Q.r ?_; (repeat (intro b1; refine Q.r ?_))
          exact ⟨(k + 1, seen, a3, c3, us), ⟨rfl, rfl, rfl, rfl, rfl, rfl, rfl, congrArg some (by simp), trivial⟩, by exact Go.SX.Ent.go, ⟨by dsimp only; omega, hg.skip⟩, by dsimp only; omega⟩
        | none =>
          dsimp only
          refine Q.r ?_; (repeat (intro b1; refine Q.r ?_))
          have hul : us.length = (us.map OV.abs).length := (List.length_map ..).symm
          have hgn := hg.n
          have hgn1 := hg.n1
          refine S.mu (u := true) rfl rfl rfl ?_
          refine Q.r ?_; (repeat (intro b1; refine Q.r ?_))
          refine S.y (Y.cvi rfl) ?_
          rw [show IntKind.i32.wrap (k : Int) = (k : Int) from wrap_i32 (by omega) (by omega)]
          refine Q.r ?_; (repeat (intro b1; refine Q.r ?_))
          rename_i bv
          refine S.app rfl rfl (SrcS.sl RdC.row (by rfl) (by rfl)) (by rfl) (by omega) (by omega) (fun a7 c7 => ?_)
          refine Q.r ?_; (repeat (intro b1; refine Q.r ?_))
          refine ⟨(k + 1, putL seen (o.id % 50) true, a7, c7, us ++ [⟨o.id % 50, some ⟨bv, 0, none⟩, 2, [1, k]⟩]), ⟨rfl, rfl, rfl, rfl, rfl, rfl, congrArg some (by simp), congrArg some (by simp), trivial⟩, ?_, ⟨by dsimp only; omega, ?_⟩, by dsimp only; omega⟩
          · dsimp only
            rw [len_snoc, flat_snoc]
            refine Ent.trans (M := pt bv (cl [Value.int .i32 1, Value.int .i32 k] 21) :: vecsH us :: slO 57 2 a7 (us.length + 1) c7 (us.flatMap OV.cells ++ [Value.int .u64 (o.id % 50), .slice (some ⟨bv, 0, none⟩) 2 2]) :: mpO U64 Value.bool mm (putL seen (o.id % 50) true) :: jdgH M1 p (JG0 s 2) :: roM M1 :: []) (by exact Go.SX.Ent.go) (Ent.trans (slO_fold (sz := 1) (m := 2) rfl) (Ent.trans (vecs_snoc (o := ⟨o.id % 50, some ⟨bv, 0, none⟩, 2, [1, k]⟩) rfl) ?_))
            exact Go.SX.Ent.go
          · dsimp only
            rw [List.map_append]
            exact hg.add (x := o.id % 50) hks ⟨by omega, by omega⟩ h16 hz
      · refine Q.r ?_; (repeat (intro b1; refine Q.r ?_))
        exact ⟨(k + 1, seen, a3, c3, us), ⟨rfl, rfl, rfl, rfl, rfl, rfl, rfl, congrArg some (by simp), trivial⟩, by exact Go.SX.Ent.go, ⟨by dsimp only; omega, hg.skip⟩, by dsimp only; omega⟩
    · refine Q.r ?_; (repeat (intro b1; refine Q.r ?_))
      refine ⟨(a3, c3, us), ⟨rfl, rfl, rfl, rfl, trivial⟩, by exact Go.SX.Ent.go, ?_⟩
      have hul : us.length = (us.map OV.abs).length := (List.length_map ..).symm
      exact ⟨by rw [hul]; exact hg.n1, fun h0 => hg.ok (by rw [← hul]; exact h0)⟩
  · rintro ⟨a, c, us⟩ ⟨hu16, hask⟩
    dsimp only at hu16 hask ⊢
    by_cases h0 : us.length = 0
    · refine Q.r ?_; (repeat (intro b1; refine Q.r ?_))
      exact N.r1 (RV.tmp rfl RV.nil) (by exact Go.SX.Ent.go) rfl
    · have hA := hask h0
      refine swp_abs a (fun M2 hl2 hs2 => ?_)
      refine swp_absV us (fun M3 hl3 hs3 => ?_)
      refine swp_gm p (hl2.trans hl3) ?_
      have hn : okN M3 ⟨1, 0, 4, 0, 0, 0, 0, 0, 0, 0, 0, 0, none, 0, [], a, c, us, none, 0, [], none, 0, []⟩ := ⟨SlM.nil0, ⟨hs2.mono hl3, hs3⟩, SlM.nil0, SlM.nil0, fun o ho => by cases ho⟩
      have hna : NV.abs ⟨1, 0, 4, 0, 0, 0, 0, 0, 0, 0, 0, 0, none, 0, [], a, c, us, none, 0, [], none, 0, []⟩ = askA (us.map OV.abs) := rfl
      have hr0 : rightN (NV.abs ⟨1, 0, 4, 0, 0, 0, 0, 0, 0, 0, 0, 0, none, 0, [], a, c, us, none, 0, [], none, 0, []⟩) = true := by rw [hna]; exact hA.right
      have hw0 : WG (JG0 s 2) := WG.zero (by decide) (by decide)
      have hT3 := hT.mono (hl1.trans (hl2.trans hl3))
      refine Q.r ?_; (repeat (intro b1; refine Q.r ?_))
      refine S.cg p (args := [ptrG p, .int .i64 9, NV.val ⟨1, 0, 4, 0, 0, 0, 0, 0, 0, 0, 0, 0, none, 0, [], a, c, us, none, 0, [], none, 0, []⟩]) rfl (GPlan_spec _ M3 p (JG0 s 2) 9 _ hw0.b hn (OkN.right hr0) hT3 (by show (0 : Int) ≤ 1 ∧ (1 : Int) ≤ 255; decide)) ?_
      rw [hna, hA.plan]
      rintro _ _ ⟨a1, c1, rs, a2, c2, ns, a3, c3, ms, a4, c4, is, a5, c5, es, M4, rfl, hl4, ⟨_, o2, _, _, _⟩, ⟨_, e2, _, _, _⟩, rfl⟩
      dsimp only at e2
      obtain ⟨n1, hns, f1⟩ := map_one e2
      subst hns
      obtain ⟨bn, on, hbn, cn⟩ := SlM.cm (g := NV.cells) (k := 0) (fun _ => rfl) o2.1 rfl rfl
      subst hbn
      have hT4 := hT3.mono hl4
      have hr1 : rightN n1.abs = true := by rw [f1]; exact hA.rb s1 s2
      have k1 : n1.kind = 19 := congrArg NA.kind f1
      have t1 : n1.txn = 1 := congrArg NA.txn f1
      have p1 : n1.parts = (askR s (us.map OV.abs)).parts := congrArg NA.parts f1
      have ht0 := hA.t0 s1 s2
      have hz1 : NZ n1.abs := by rw [f1]; exact ⟨by show (0 : Int) ≤ 1; decide, by show (1 : Int) < 18446744073709551616; decide, Int.le_refl _, Int.le_refl _, Int.le_refl _⟩
      have happ := hA.app s1 s2
      dsimp only [List.length_cons, List.length_nil]
      refine Q.rn ?_; (repeat (intro b1; refine Q.rn ?_))
      refine S.cg p rfl (GApply_spec' n1 M4 p (JG0 s 2) _ hw0 (o2.2 n1 (List.mem_singleton.2 rfl)) (OkN.right hr1) hT4 (NumN.right hr1 hz1) hz1.t1 (fun h => absurd h (by omega))) ?_
      rw [f1]
      rintro _ _ ⟨M5, rfl, hl5, rfl⟩
      rw [happ.1, happ.2]
      have hw1 : WG (jV s (askR s (us.map OV.abs)) []) := by rw [← happ.2]; exact hw0.app (by show (0 : Int) ≤ 1; decide) (Int.le_refl _) (Int.le_refl _)
      have hT5 := hT4.mono hl5
      have cn := cn.mono hl5
      have hpm : SlM M5 n1.pa n1.parts.length 1 (n1.parts.map I64) := ((o2.2 n1 (List.mem_singleton.2 rfl)).mono hl5).p
      generalize askR s (us.map OV.abs) = t at p1 ht0 hw1 happ f1 ⊢
      have hpl := ht0.pl
      have hp0 := ht0.p0
      have hl15 : leM M M5 := hl1.trans (hl2.trans (hl3.trans (hl4.trans hl5)))
      have hpn : n1.parts.length = t.parts.length := congrArg List.length p1
      obtain ⟨m, rfl⟩ := Int.eq_ofNat_of_zero_le hno.1
      obtain ⟨R, hR⟩ : ∃ R, R = m % (n1.parts.length + 1) := ⟨_, rfl⟩
      have hRl : R ≤ t.parts.length := by
        have := Nat.mod_lt m (show 0 < n1.parts.length + 1 by omega)
        omega
      refine Q.rn ?_; (repeat (intro b1; refine Q.rn ?_))
      refine S.y (Y.cvi rfl) ?_
      rw [wrap_i64 (by omega) (by omega)]
      refine Q.rn ?_; (repeat (intro b1; refine Q.rn ?_))
      refine S.y (Y.rem rfl rfl (by omega)) ?_
      rw [show (m : Int).tmod ((n1.parts.length + 1 : Nat) : Int) = (R : Int) from by rw [Int.tmod_eq_emod_of_nonneg (by omega), hR]; exact (Int.natCast_emod ..).symm]
      refine Q.rn ?_; (repeat (intro b1; refine Q.rn ?_))
      rename_i bq
      revert b1
      intro b18
      clear hask hs2 hs3 hn hna hr0 hw0 hT3 hl4 hl5 h hx hz1 k1 cn o2 f1 happ e2
      have hW1 := hw1
      refine swp_cutB (σ := JG × (Nat → Option Obj)) (fun u => [(10, ptrG p), (19, .int .i64 R), (20, .int .i64 1)]) (fun u => jdgH u.2 p u.1 :: roM u.2 :: []) (fun u => E0 s t R 2 u.1 1) ?_ ?_
      · refine swp_loop (σ := Nat × JG × Int × (Nat → Option Obj)) (fun u => [(3, .slice ao os.length co), (10, ptrG p), (18, .pointer (some ⟨b18, 0, none⟩)), (19, .int .i64 R), (20, .int .i64 u.2.2.1), (107, .int .i64 u.1)])
          (fun u => pt b18 (cl n1.cells 39) :: jdgH u.2.2.2 p u.2.1 :: roM u.2.2.2 :: []) (fun u => u.1 ≤ 2 ∧ E0 s t R u.1 u.2.1 u.2.2.1 ∧ WG u.2.1 ∧ leM M5 u.2.2.2) (fun u => 2 - u.1) (0, jV s t [], 0, M5) ⟨rfl, rfl, rfl, rfl, rfl, rfl, trivial⟩ (by exact Go.SX.Ent.go) ⟨by omega, ⟨rfl, rfl⟩, hw1, leM.refl M5⟩ ?_
        rintro ⟨r, j, told, M6⟩ ⟨hr2, hE0, hWj, hl6⟩
        dsimp only at hr2 hE0 hWj hl6 ⊢
        by_cases hr : r < 2
        · have hpm6 := hpm.mono hl6
          refine Q.rn ?_; (repeat (intro b1; refine Q.rn ?_))
          refine opsS_ent (slO_fold (sz := 1) (m := 0) rfl) ?_
          refine S.app0 rfl rfl rfl (SrcS.rd hpm6.rd (P_one _)) (by rfl) (by omega) (by omega) (fun a5 c5 => ?_)
          refine opsS_addr a5 (fun ha5 => ?_)
          obtain ⟨b5, rfl⟩ : ∃ b5, a5 = some ⟨b5, 0, none⟩ := ha5.resolve_left (by omega)
          refine opsS_own b5 (fun rest hmc hrl => ?_)
          rw [show n1.parts.map I64 ++ rest = ar .i64 n1.parts.toArray rest from by rw [ar_toList]]
          refine Q.rn ?_; (repeat (intro b1; refine Q.rn ?_))
          refine swp_cutB (σ := Array Int) (fun d => [(3, .slice ao os.length co), (10, ptrG p), (18, .pointer (some ⟨b18, 0, none⟩)), (19, .int .i64 R), (21, .int .i64 r), (107, .int .i64 r), (20, .int .i64 told), (22, SV b5 n1.parts.length c5)]) (fun d => AI b5 d rest :: pt b18 (cl n1.cells 39) :: jdgH M6 p j :: roM M6 :: []) (fun d => d.size = n1.parts.length ∧ d.toList.Perm n1.parts) ?_ ?_
          · refine swp_loop (σ := Nat × Array Int) (fun u => [(3, .slice ao os.length co), (10, ptrG p), (18, .pointer (some ⟨b18, 0, none⟩)), (19, .int .i64 R), (21, .int .i64 r), (107, .int .i64 r), (20, .int .i64 told), (22, SV b5 n1.parts.length c5), (115, .int .i64 n1.parts.length), (116, .int .i64 u.1)]) (fun u => AI b5 u.2 rest :: pt b18 (cl n1.cells 39) :: jdgH M6 p j :: roM M6 :: [])
              (fun u => u.1 ≤ n1.parts.length ∧ u.2.size = n1.parts.length ∧ u.2.toList.Perm n1.parts) (fun u => n1.parts.length - u.1) (0, n1.parts.toArray) ⟨rfl, rfl, rfl, rfl, rfl, rfl, rfl, rfl, rfl, rfl, trivial⟩ (by exact Go.SX.Ent.go) ⟨Nat.zero_le _, by simp, by simp⟩ ?_
            rintro ⟨i, d⟩ ⟨hi, hds, hdp⟩
            dsimp only at hi hds hdp ⊢
            by_cases hit : i < n1.parts.length
            · by_cases hio : i < os.length
              · obtain ⟨q, hq⟩ := mem_get hio
                have hqb := hob q (List.mem_of_getElem? hq)
                obtain ⟨bo, oo, hia, cr⟩ := SlM.cm1 (g := U8) (ho.mono (hl15.trans hl6)) hq rfl
                rw [hia]
                obtain ⟨qn, rfl⟩ := Int.eq_ofNat_of_zero_le hqb.1
                refine Q.rn ?_; (repeat (intro b1; refine Q.rn ?_))
                refine S.y (Y.cvi rfl) ?_
                rw [wrap_i64 (by omega) (by omega)]
                refine Q.rn ?_; (repeat (intro b1; refine Q.rn ?_))
                refine S.y (Y.rem rfl rfl (by omega)) ?_
                obtain ⟨kq, hkq⟩ : ∃ kq, kq = qn % n1.parts.length := ⟨_, rfl⟩
                have hkl : kq < n1.parts.length := by rw [hkq]; exact Nat.mod_lt _ (by omega)
                rw [show (qn : Int).tmod ((n1.parts.length : Nat) : Int) = (kq : Int) from by rw [Int.tmod_eq_emod_of_nonneg (by omega), hkq]; exact (Int.natCast_emod ..).symm]
                refine Q.rn ?_; (repeat (intro b1; refine Q.rn ?_))
                refine Q.dgo [true] [13, 15] [13] [0, 1, 2, 3, 4, 5, 6, 7, 8, 9, 10, 11, 12, 13, 14, 15] ?_; (refine Q.rdn ?_; (repeat (intro b1; refine Q.rdn ?_))); refine Q.dc rfl rfl rfl rfl ?_; (refine Q.rn ?_; (repeat (intro b1; refine Q.rn ?_))); (refine Q.rdn ?_; (repeat (intro b1; refine Q.rdn ?_))); refine D.e rfl rfl rfl ?_; (refine Q.rn ?_; (repeat (intro b1; refine Q.rn ?_))); (refine Q.rdn ?_; (repeat (intro b1; refine Q.rdn ?_))); (refine Q.rn ?_; (repeat (intro b1; refine Q.rn ?_)))
                exact ⟨(i + 1, Sort.swp d i kq), ⟨rfl, rfl, rfl, rfl, rfl, rfl, rfl, rfl, rfl, rfl, trivial⟩, by exact Go.SX.Ent.go, ⟨by dsimp only; omega, by rw [swp_size]; exact hds, (swp_toPerm (by omega) (by omega)).trans hdp⟩, by dsimp only; omega⟩
              · refine Q.rn ?_; (repeat (intro b1; refine Q.rn ?_))
                exact ⟨(i + 1, d), ⟨rfl, rfl, rfl, rfl, rfl, rfl, rfl, rfl, rfl, rfl, trivial⟩, by exact Go.SX.Ent.go, ⟨by dsimp only; omega, hds, hdp⟩, by dsimp only; omega⟩
            · refine Q.rn ?_; (repeat (intro b1; refine Q.rn ?_))
              exact ⟨d, ⟨rfl, rfl, rfl, rfl, rfl, rfl, rfl, rfl, trivial⟩, by exact Go.SX.Ent.go, hds, hdp⟩
          · rintro d ⟨hds, hdp⟩
            have hpt : d.toList.Perm t.parts := by rw [← p1]; exact hdp
            refine Q.rn ?_; (repeat (intro b1; refine Q.rn ?_))
            refine swp_loop (σ := Nat × JG × Int × (Nat → Option Obj)) (fun u => [(3, .slice ao os.length co), (10, ptrG p), (18, .pointer (some ⟨b18, 0, none⟩)), (19, .int .i64 R), (21, .int .i64 r), (107, .int .i64 r), (20, .int .i64 u.2.2.1), (146, SV b5 n1.parts.length c5), (147, .int .i64 n1.parts.length), (148, .int .i64 u.1)]) (fun u => AI b5 d rest :: pt b18 (cl n1.cells 39) :: jdgH u.2.2.2 p u.2.1 :: roM u.2.2.2 :: [])
              (fun u => u.1 ≤ n1.parts.length ∧ EE s t d.toList R r u.1 u.2.1 u.2.2.1 ∧ WG u.2.1 ∧ leM M6 u.2.2.2) (fun u => n1.parts.length - u.1) (0, j, told, M6) ⟨rfl, rfl, rfl, rfl, rfl, rfl, rfl, rfl, rfl, rfl, trivial⟩ (by exact Go.SX.Ent.go) ⟨Nat.zero_le _, hE0.start hr ht0 _, hWj, leM.refl M6⟩ ?_
            rintro ⟨i, j2, told2, M7⟩ ⟨hi, hEE, hW2, hl7⟩
            dsimp only at hi hEE hW2 hl7 ⊢
            by_cases hit : i < n1.parts.length
            · have hfr : d.toList[i]? = some d[i]! := by simp [hds, hit]
              refine Q.rn ?_; (repeat (intro b1; refine Q.rn ?_))
              rw [t1]
              revert b1
              intro b27
              refine swp_cutT (σ := Unit) (fun _ => [(3, .slice ao os.length co), (10, ptrG p), (18, .pointer (some ⟨b18, 0, none⟩)), (19, .int .i64 R), (21, .int .i64 r), (107, .int .i64 r), (146, SV b5 n1.parts.length c5), (147, .int .i64 n1.parts.length), (148, .int .i64 i), (20, .int .i64 told2), (26, .int .i64 d[i]!), (27, .pointer (some ⟨b27, 0, none⟩))]) (fun _ => pt b27 (cl (NA.nv (msgE R r i)).cells 39) :: AI b5 d rest :: pt b18 (cl n1.cells 39) :: jdgH M7 p j2 :: roM M7 :: []) (fun _ => True) ?_ ?_
              · by_cases hr1 : r = 1
                · subst hr1
                  refine Q.rn ?_; (repeat (intro b1; refine Q.rn ?_))
                  exact ⟨(), ⟨rfl, rfl, rfl, rfl, rfl, rfl, rfl, rfl, rfl, rfl, rfl, rfl, trivial⟩, by exact Go.SX.Ent.go, trivial⟩
                · have hr0 : r = 0 := by omega
                  subst hr0
                  by_cases hiR : i + 1 = R
                  · have hm : msgE R 0 i = voteN' 11 := by unfold msgE; rw [if_neg (by decide), if_pos hiR]
                    rw [hm]
                    refine Q.rn ?_; (repeat (intro b1; refine Q.rn ?_))
                    exact ⟨(), ⟨rfl, rfl, rfl, rfl, rfl, rfl, rfl, rfl, rfl, rfl, rfl, rfl, trivial⟩, by exact Go.SX.Ent.go, trivial⟩
                  · have hm : msgE R 0 i = voteN' 0 := by unfold msgE; rw [if_neg (by decide), if_neg hiR]
                    rw [hm]
                    refine Q.rn ?_; (repeat (intro b1; refine Q.rn ?_))
                    exact ⟨(), ⟨rfl, rfl, rfl, rfl, rfl, rfl, rfl, rfl, rfl, rfl, rfl, rfl, trivial⟩, by exact Go.SX.Ent.go, trivial⟩
              · rintro _ _
                have hT7 := (hT5.mono hl6).mono hl7
                refine Q.rn ?_; (repeat (intro b1; refine Q.rn ?_))
                refine S.cg p (args := [ptrG p, .int .i64 d[i]!, (NA.nv (msgE R r i)).val]) rfl (GPlan_spec (NA.nv (msgE R r i)) M7 p j2 d[i]! _ hW2.b (okN.nv _) (OkN.nv _) hT7 (msgE_kind R r i)) ?_
                rw [msgE_abs]
                obtain ⟨j', told', hS, hE'⟩ := EE.step ht0 hpt hr hEE hRl (by omega) hfr
                have hmails := hS.mails
                have hSr := hS.r
                have hto := hEE.told
                have hto' := hE'.told
                generalize planG j2 d[i]! (msgE R r i) = pl at hSr hmails ⊢
                rintro _ _ ⟨a1, c1, rs, a2, c2, ns, a3, c3, ms, a4, c4, is, a6, c6, es, M8, rfl, hl8, ⟨o1, o2, o3, _, _⟩, ⟨e1, e2, e3, _, _⟩, rfl⟩
                have hrl1 : rs.length + ns.length ≤ 1 := by
                  have h1 := congrArg List.length e1
                  have h2 := congrArg List.length e2
                  rw [List.length_map] at h1 h2
                  rcases hSr with ⟨h, _⟩ | ⟨_, h, _⟩
                  · have := congrArg List.length h
                    rw [List.length_append, List.length_nil] at this; omega
                  · have := congrArg List.length h
                    rw [List.length_append, List.length_singleton] at this; omega
                refine Q.rn ?_; (repeat (intro b1; refine Q.rn ?_))
                revert b1
                intro b28
                refine Q.dgo [true] [0, 3, 6] [] [1, 2, 4, 5, 8, 0, 3, 6, 7] ?_
                refine Q.rd ?_; (repeat (intro b1; refine Q.rd ?_))
                refine D.e rfl rfl rfl ?_
                first | refine opsS_ent (slO_fold (sz := 16) (m := 0) rfl) ?_ | refine opsS_ent (Ent.trans (Ent.perm (.swap _ _ _)) (slO_fold (sz := 16) (m := 0) rfl)) ?_
                refine S.app0 rfl rfl rfl (SrcS.rd o1.1.rd (NV_one _)) (by rfl) (by omega) (by omega) (fun a7 c7 => ?_)
                refine Q.rn ?_; (repeat (intro b1; refine Q.rn ?_))
                refine Q.rd ?_; (repeat (intro b1; refine Q.rd ?_))
                refine D.e rfl rfl rfl ?_
                refine S.app rfl rfl (SrcS.rd o2.1.rd (NV_one _)) (by rfl) (by omega) (by omega) (fun a8 c8 => ?_)
                refine Q.rn ?_; (repeat (intro b1; refine Q.rn ?_))
                refine Q.rd ?_; (repeat (intro b1; refine Q.rd ?_))
                refine Q.rn ?_; (repeat (intro b1; refine Q.rn ?_))
                refine swp_abs a8 (fun M9 hl9 hs9 => ?_)
                refine swp_gm p hl9 ?_
                have hs9' : SlM M9 a8 (rs ++ ns).length 16 ((rs ++ ns).flatMap NV.cells) := by rw [List.length_append, List.flatMap_append]; exact hs9
                have hxo : ∀ x ∈ rs ++ ns, okN M9 x := fun x hx => by
                  rcases List.mem_append.1 hx with h | h
                  · exact (o1.2 x h).mono hl9
                  · exact (o2.2 x h).mono hl9
                have hxa : (rs ++ ns).map NV.abs = pl.rec_ ++ pl.notes := by rw [List.map_append, e1, e2]
                have hT9 := (hT7.mono hl8).mono hl9
                rw [← List.length_append]
                generalize rs ++ ns = zs at hs9' hxo hxa ⊢
                have hkk : (zs = [] ∧ j' = j2) ∨ ∃ r1, zs = [r1] ∧ okN M9 r1 ∧ rightN r1.abs = true ∧ NZ r1.abs ∧ r1.kind ≠ 16 ∧ appGE j2 r1.abs = 0 ∧ j' = appG j2 r1.abs := by
                  rcases hSr with ⟨h1, h2⟩ | ⟨q, h1, h2, h3, h4, h5⟩
                  · rw [h1] at hxa; exact .inl ⟨List.map_eq_nil_iff.1 hxa, h2⟩
                  · rw [h1] at hxa
                    obtain ⟨r1, hz, f1⟩ := map_one hxa
                    subst f1
                    exact .inr ⟨r1, hz, hxo r1 (by rw [hz]; exact List.mem_singleton.2 rfl), right_of_app h4, h2, h3, h4, h5⟩
                refine swp_cutB (σ := Nat → Option Obj) (fun m => [(3, .slice ao os.length co), (10, ptrG p), (18, .pointer (some ⟨b18, 0, none⟩)), (19, .int .i64 R), (20, .int .i64 told2), (21, .int .i64 r), (28, .pointer (some ⟨b28, 0, none⟩)), (107, .int .i64 r), (146, SV b5 n1.parts.length c5), (147, .int .i64 n1.parts.length), (148, .int .i64 i)]) (fun m => pt b28 (cl [.slice a1 rs.length c1, .slice a2 ns.length c2, .slice a3 ms.length c3, .slice a4 is.length c4, .slice a6 es.length c6] 44) :: AI b5 d rest :: pt b18 (cl n1.cells 39) :: jdgH m p j' :: roM m :: []) (fun m => WG j' ∧ leM M9 m) ?_ ?_
                · refine swp_loop (σ := Nat × JG × (Nat → Option Obj)) (fun u => [(3, .slice ao os.length co), (10, ptrG p), (18, .pointer (some ⟨b18, 0, none⟩)), (19, .int .i64 R), (20, .int .i64 told2), (21, .int .i64 r), (28, .pointer (some ⟨b28, 0, none⟩)), (107, .int .i64 r), (146, SV b5 n1.parts.length c5), (147, .int .i64 n1.parts.length), (148, .int .i64 i), (174, .slice a8 zs.length c8), (175, .int .i64 zs.length), (176, .int .i64 u.1)]) (fun u => pt b28 (cl [.slice a1 rs.length c1, .slice a2 ns.length c2, .slice a3 ms.length c3, .slice a4 is.length c4, .slice a6 es.length c6] 44) :: AI b5 d rest :: pt b18 (cl n1.cells 39) :: jdgH u.2.2 p u.2.1 :: roM u.2.2 :: [])
                    (fun u => u.1 ≤ zs.length ∧ ((u.1 = 0 ∧ u.2 = (j2, M9)) ∨ (u.1 = 1 ∧ u.2.1 = j' ∧ WG j' ∧ leM M9 u.2.2))) (fun u => zs.length - u.1) (0, j2, M9) ⟨rfl, rfl, rfl, rfl, rfl, rfl, rfl, rfl, rfl, rfl, rfl, rfl, rfl, rfl, trivial⟩ (by exact Go.SX.Ent.go) ⟨Nat.zero_le _, .inl ⟨rfl, rfl⟩⟩ ?_
                  rintro ⟨q, j3, M10⟩ ⟨hq1, hq2⟩
                  dsimp only at hq1 hq2 ⊢
                  by_cases hqt : q < zs.length
                  · rcases hkk with ⟨rfl, _⟩ | ⟨r1, rfl, g1, g2, g3, g4, g5, g6⟩
                    · cases hqt
                    · have hq0 : q = 0 := by simp at hqt; exact hqt
                      subst hq0
                      rcases hq2 with ⟨_, hq2⟩ | ⟨h, _⟩
                      case inr => cases h
                      cases hq2
                      obtain ⟨br, or, hra, cr⟩ := SlM.cm (g := NV.cells) (k := 0) (fun _ => rfl) hs9' rfl rfl
                      rw [hra]
                      refine Q.rn ?_; (repeat (intro b1; refine Q.rn ?_))
                      refine S.cg p rfl (GApply_spec' r1 M9 p j2 _ hW2 g1 (OkN.right g2) hT9 (NumN.right g2 g3) g3.t1 (fun h => absurd h g4)) ?_
                      rintro _ _ ⟨M11, rfl, hl11, rfl⟩
                      rw [g5]
                      refine Q.rn ?_; (repeat (intro b1; refine Q.rn ?_))
                      exact ⟨(1, appG j2 r1.abs, M11), ⟨rfl, rfl, rfl, rfl, rfl, rfl, rfl, rfl, rfl, rfl, rfl, rfl, rfl, rfl, trivial⟩, by exact Go.SX.Ent.go, ⟨Nat.le_refl _, .inr ⟨rfl, g6.symm, by rw [g6]; exact hW2.app g3.t0 g3.s g3.m, hl11⟩⟩, by simp⟩
                  · have hfin : j3 = j' ∧ WG j' ∧ leM M9 M10 := by
                      rcases hq2 with ⟨h0, h2⟩ | ⟨_, h2, h3, h4⟩
                      · cases h2
                        rcases hkk with ⟨_, h⟩ | ⟨r1, h, _⟩
                        · exact ⟨h.symm, h ▸ hW2, leM.refl _⟩
                        · have := congrArg List.length h
                          simp at this
                          omega
                      · exact ⟨h2, h3, h4⟩
                    obtain ⟨hj3, hWj', hl10⟩ := hfin
                    subst hj3
                    refine Q.rn ?_; (repeat (intro b1; refine Q.rn ?_))
                    exact ⟨M10, ⟨rfl, rfl, rfl, rfl, rfl, rfl, rfl, rfl, rfl, rfl, rfl, trivial⟩, by exact Go.SX.Ent.go, hWj', hl10⟩
                · rintro M10 ⟨hWj', hl10⟩
                  try dsimp only at hWj' hl10 ⊢
                  have o3' : okMs M10 a3 ms := o3.mono (hl9.trans hl10)
                  obtain ⟨hm1, hm2, hm3⟩ := hmails
                  have hml : ms.length ≤ 5 := by
                    have h := congrArg List.length e3
                    rw [List.length_map] at h; omega
                  have hcm : pl.mail.countP (fun m => decide (m.2.kind = 2)) = ms.countP (fun m : Int × NV => decide (m.2.kind = 2)) := by rw [← e3, List.countP_map]; rfl
                  rw [hcm] at hm2
                  refine Q.rn ?_; (repeat (intro b1; refine Q.rn ?_))
                  refine swp_loop (σ := Nat) (fun q => [(3, .slice ao os.length co), (10, ptrG p), (18, .pointer (some ⟨b18, 0, none⟩)), (19, .int .i64 R), (20, .int .i64 (told2 + (((ms.take q).countP (fun m : Int × NV => decide (m.2.kind = 2)) : Nat) : Int))), (21, .int .i64 r), (107, .int .i64 r), (146, SV b5 n1.parts.length c5), (147, .int .i64 n1.parts.length), (148, .int .i64 i), (186, .slice a3 ms.length c3), (187, .int .i64 ms.length), (188, .int .i64 q)]) (fun _ => AI b5 d rest :: pt b18 (cl n1.cells 39) :: jdgH M10 p j' :: roM M10 :: []) (fun q => q ≤ ms.length) (fun q => ms.length - q) 0 ⟨rfl, rfl, rfl, rfl, congrArg some (by simp), rfl, rfl, rfl, rfl, rfl, rfl, rfl, rfl, trivial⟩ (by exact Go.SX.Ent.go) (Nat.zero_le _) ?_
                  intro q hq
                  by_cases hqt : q < ms.length
                  · obtain ⟨m, hm⟩ := mem_get hqt
                    obtain ⟨bm, om, hma, cm⟩ := SlM.cm (g := mcells) (fun _ => rfl) o3'.1 hm rfl
                    rw [hma]
                    have hmm : (m.1, m.2.abs) ∈ pl.mail := by rw [← e3]; exact List.mem_map_of_mem (f := fun m : Int × NV => (m.1, m.2.abs)) (List.mem_of_getElem? hm)
                    have hf := hm1 _ hmm
                    dsimp only at hf
                    have hcl : (ms.take q).countP (fun m : Int × NV => decide (m.2.kind = 2)) ≤ 5 := by
                      have h1 := List.countP_le_length (p := (fun m : Int × NV => decide (m.2.kind = 2))) (l := ms.take q)
                      have h2 := List.length_take_le' q ms
                      omega
                    by_cases k2 : m.2.kind = 2
                    · obtain ⟨f9, fc⟩ := hf k2
                      have hcn : (ms.take (q + 1)).countP (fun m : Int × NV => decide (m.2.kind = 2)) = (ms.take q).countP (fun m : Int × NV => decide (m.2.kind = 2)) + 1 := by rw [take_snoc hm, List.countP_append, List.countP_cons, List.countP_nil, if_pos (decide_eq_true k2)]
                      generalize (ms.take q).countP (fun m : Int × NV => decide (m.2.kind = 2)) = cnt at hcl hcn ⊢
                      have fc' : m.2.code = 0 ↔ R = 0 := fc
                      clear fc
                      by_cases hR0 : R = 0
                      · have hc0 := fc'.2 hR0
                        clear fc'
                        refine Q.rn ?_; (repeat (intro b1; refine Q.rn ?_))
                        refine ⟨q + 1, ⟨rfl, rfl, rfl, rfl, congrArg some (congrArg (Value.int .i64) (by rw [hcn]; omega)), rfl, rfl, rfl, rfl, rfl, rfl, rfl, rfl, trivial⟩, by exact Go.SX.Ent.go, hqt, by omega⟩
                      · have hc0 : ¬ m.2.code = 0 := fun h => hR0 (fc'.1 h)
                        clear fc'
                        refine Q.rn ?_; (repeat (intro b1; refine Q.rn ?_))
                        refine ⟨q + 1, ⟨rfl, rfl, rfl, rfl, congrArg some (congrArg (Value.int .i64) (by rw [hcn]; omega)), rfl, rfl, rfl, rfl, rfl, rfl, rfl, rfl, trivial⟩, by exact Go.SX.Ent.go, hqt, by omega⟩
                    · have hcn : (ms.take (q + 1)).countP (fun m : Int × NV => decide (m.2.kind = 2)) = (ms.take q).countP (fun m : Int × NV => decide (m.2.kind = 2)) := by rw [take_snoc hm, List.countP_append, List.countP_cons, List.countP_nil, if_neg (by simp [k2])]; rfl
                      refine Q.rn ?_; (repeat (intro b1; refine Q.rn ?_))
                      refine ⟨q + 1, ⟨rfl, rfl, rfl, rfl, congrArg some (congrArg (Value.int .i64) (by rw [hcn])), rfl, rfl, rfl, rfl, rfl, rfl, rfl, rfl, trivial⟩, by exact Go.SX.Ent.go, hqt, by omega⟩
                  · have hqe : q = ms.length := by omega
                    subst hqe
                    rw [List.take_length, ← hm2]
                    refine Q.rn ?_; (repeat (intro b1; refine Q.rn ?_))
                    exact ⟨(i + 1, j', told', M10), ⟨rfl, rfl, rfl, rfl, rfl, rfl, rfl, rfl, rfl, rfl, trivial⟩, by exact Go.SX.Ent.go, ⟨by dsimp only; omega, hE', hWj', ((hl7.trans hl8).trans hl9).trans hl10⟩, by dsimp only; omega⟩
            · have hie : i = n1.parts.length := by omega
              subst hie
              refine Q.rn ?_; (repeat (intro b1; refine Q.rn ?_))
              rw [hpn] at hEE
              exact ⟨(r + 1, j2, told2, M7), ⟨rfl, rfl, rfl, rfl, rfl, rfl, trivial⟩, by exact Go.SX.Ent.go, ⟨by dsimp only; omega, hEE.stop hr hRl, hW2, hl6.trans hl7⟩, by dsimp only; omega⟩
        · have hr2 : r = 2 := by omega
          subst hr2
          have h2 := hE0
          unfold E0 at h2
          rw [if_neg (by decide), if_neg (by decide)] at h2
          obtain ⟨rfl, _⟩ := h2
          refine Q.rn ?_; (repeat (intro b1; refine Q.rn ?_))
          exact ⟨(j, M6), ⟨rfl, rfl, rfl, trivial⟩, by exact Go.SX.Ent.go, hE0⟩
      · rintro ⟨j, M6⟩ hE0
        dsimp only at hE0 ⊢
        unfold E0 at hE0
        rw [if_neg (by decide), if_neg (by decide)] at hE0
        refine Q.rn ?_; (repeat (intro b1; refine Q.rn ?_))
        refine S.cgn p rfl (GDone_spec M6 p j 4 _) ?_
        rintro _ _ ⟨rfl, rfl⟩
        rcases hE0 with ⟨_, ⟨hR0, rfl⟩ | ⟨hR0, rfl⟩⟩
        · rw [show lkL (jF s).done 4 = some 1 from rfl]
          dsimp only [Option.getD_some, Option.isSome_some]
          refine Q.rn ?_; (repeat (intro b1; refine Q.rn ?_))
          refine S.cgn p rfl (GTrials0_spec M6 p (jF s) _ rfl) ?_
          rintro _ _ ⟨rfl, rfl⟩
          refine Q.rn ?_; (repeat (intro b1; refine Q.rn ?_))
          refine S.cgn p rfl (GWake0_spec M6 p (jF s) _ rfl) ?_
          rintro _ _ ⟨rfl, rfl⟩
          refine Q.rn ?_; (repeat (intro b1; refine Q.rn ?_))
          exact N.r1 (RV.tmp rfl RV.nil) (by exact Go.SX.Ent.go) (by simp [hR0])
        · rw [show lkL (jG s).done 4 = none from rfl]
          dsimp only [Option.getD_none, Option.isSome_none]
          refine Q.rn ?_; (repeat (intro b1; refine Q.rn ?_))
          refine S.cgn p rfl (GTrials0_spec M6 p (jG s) _ rfl) ?_
          rintro _ _ ⟨rfl, rfl⟩
          refine Q.rn ?_; (repeat (intro b1; refine Q.rn ?_))
          refine S.cgn p rfl (GWake0_spec M6 p (jG s) _ rfl) ?_
          rintro _ _ ⟨rfl, rfl⟩
          refine Q.rn ?_; (repeat (intro b1; refine Q.rn ?_))
          exact N.r1 (RV.tmp rfl RV.nil) (by exact Go.SX.Ent.go) (by simp)
end Go.Proofs.YtiampehfpgcogaaDoor
