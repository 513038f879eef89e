/- JudgeOnce: the walk. No condition. -/
import Derived.Test.YtiampehfpgcogaaDoorPk06
set_option linter.unusedVariables false
set_option linter.unusedSimpArgs false
set_option linter.unusedSectionVars false
namespace Go.Proofs.YtiampehfpgcogaaDoor
open Go Go.SX
attribute [local irreducible] swp opsS thenS blockS retS CallsS St Ent YieldS anyS drawS
set_option maxHeartbeats 8000000 in
theorem JudgeOnce_spec (a : Option Addr) (c : Nat) (xs : List GO) (M : Nat → Option Obj) (h : SlM M a xs.length 19 (xs.flatMap GO.cells)) (hx : ∀ o ∈ xs, GOK M o) (hn : xs.length ≤ 9223372036854775807) (hT : TabM M) :
    CallsS Tryd.prog 3 [.slice a xs.length c] [roM M] (fun r _ => r = .bool true) := by
  refine CallsS.of_body Tryd.func3 rfl rfl rfl ?_
  refine Q.r ?_; (repeat (intro b1; refine Q.r ?_))
  refine S.cr rfl (Gawake_spec M _ hT) ?_
  rintro _ _ ⟨M1, rfl, hl1, rfl⟩
  refine Q.r ?_; (repeat (intro b1; refine Q.r ?_))
  refine S.cr rfl (GNew_spec M1 3 2 _ (by decide) (by decide) (by decide) (by decide)) ?_
  rintro _ _ ⟨p, rfl, rfl⟩
  refine Q.r ?_; (repeat (intro b1; refine Q.r ?_))
  refine S.mkm U64 mpV (fun my => ?_)
  refine Q.r ?_; (repeat (intro b1; refine Q.r ?_))
  refine S.mkm U64 U64 (fun md => ?_)
  refine Q.r ?_; (repeat (intro b1; refine Q.r ?_))
  refine S.mkm U64 U64 (fun mb => ?_)
  refine Q.r ?_; (repeat (intro b1; refine Q.r ?_))
  refine swp_cutB (σ := (Nat → Option Obj) × JG) (fun s => [(3, ptrG p), (8, .int .u64 s.2.last)]) (fun s => jdgH s.1 p s.2 :: []) (fun s => True) ?_ ?_
  · refine swp_loop (σ := Nat × JG × List (Int × Int) × List YE × (Nat → Option Obj)) (fun s => [(3, ptrG p), (5, .map (some my)), (6, .map (some md)), (7, .map (some mb)), (8, .int .u64 s.2.1.last), (34, .slice a xs.length c), (35, .int .i64 xs.length), (36, .int .i64 s.1)])
      (fun s => jdgH s.2.2.2.2 p s.2.1 :: mpO U64 U64 md s.2.2.1 :: mpO U64 U64 mb s.2.1.done :: mpO U64 mpV my s.2.2.2.1 :: ysH s.2.2.2.1 :: roM s.2.2.2.2 :: [])
      (fun s => s.1 ≤ xs.length ∧ s.1 ≤ 60 ∧ GI s.2.1 s.1 (YY s.2.2.2.1) s.2.2.1 ∧ WG s.2.1 ∧ leM M1 s.2.2.2.2) (fun s => xs.length - s.1) (0, JG0 3 2, [], [], M1) ⟨rfl, rfl, rfl, rfl, rfl, rfl, rfl, rfl, trivial⟩ ?_ ⟨by omega, by omega, GI.zero.le (Nat.le_refl _) (fun _ _ h => h.elim), WG.zero (by decide) (by decide), leM.refl M1⟩ ?_
    · refine Ent.trans ?_ (Ent.cons (Ent.cons (Ent.cons (Ent.cons (Ent.shut_all (L := []))))))
      exact Go.SX.Ent.go
    rintro ⟨k, j, dn, ys, M2⟩ ⟨hk1, hk2, hI, hW, hl2⟩
    dsimp only at hk1 hk2 hI hW hl2 ⊢
    by_cases hlt : k < xs.length
    · obtain ⟨o, ho⟩ := mem_get hlt
      have hmo : o ∈ xs := List.mem_of_getElem? ho
      have hl12 := hl1.trans hl2
      obtain ⟨b, oo, hab, cr⟩ := SlM.cm (g := GO.cells) (fun _ => rfl) (h.mono hl12) ho rfl
      rw [hab]
      by_cases h60 : 60 ≤ k
      · refine Q.r ?_; (repeat (intro b1; refine Q.r ?_))
        exact ⟨(M2, j), ⟨rfl, rfl, trivial⟩, by exact Go.SX.Ent.go, trivial⟩
      · refine Q.r ?_; (repeat (intro b1; refine Q.r ?_))
        revert b1
        intro bo
        refine S.cmG rfl (NFew_spec o.n M2 _ ((hx o hmo).n.mono hl12) (hx o hmo).c) ?_
        rintro _ _ ⟨n, M3, rfl, hl3, hn3, hc3, _, he3, rfl⟩
        have hN3 := few_OkN he3
        have hu3 := (hx o hmo).u.fewG he3
        refine opsS_gm p hl3 ?_
        clear cr
        by_cases hkd : 11 < n.kind
        · refine Q.r ?_; (repeat (intro b1; refine Q.r ?_))
          exact ⟨(k + 1, j, dn, ys, M3), ⟨rfl, rfl, rfl, rfl, rfl, rfl, rfl, congrArg some (by simp), trivial⟩, by exact Go.SX.Ent.go, ⟨by dsimp only; omega, by dsimp only; omega, hI.le (Nat.le_succ k) (fun _ _ h => h), hW, hl2.trans hl3⟩, by dsimp only; omega⟩
        refine Q.r ?_; (repeat (intro b1; refine Q.r ?_))
        revert b1
        intro bn
        refine S.cg p rfl (GPlan_spec n M3 p j o.fr _ hW.b hn3 hN3 (hT.mono (hl12.trans hl3)) hu3.kind) ?_
        rintro _ _ ⟨a1, c1, rs, a2, c2, ns, a3, c3, ms, a4, c4, is, a5, c5, es, M4, rfl, hl4, ⟨o1, o2, o3, _, _⟩, ⟨e1, e2, e3, _, _⟩, rfl⟩
        repeat (first | (refine GQ.y ?_; refine Q.y ?_) | (refine GQ.a ?_; refine Q.al (fun b1 => ?_)) | (refine GQ.s ?_; refine Q.st ?_) | (refine GQ.g ?_; refine Q.gq ?_))
        refine opsS_nil ?_
        refine N.tn ?_
        refine swp_seq ?_
        revert b1
        intro bp
        have hn4 : okN M4 n := hn3.mono hl4
        have hTM : TabM M4 := (hT.mono hl1).mono (hl2.trans (hl3.trans hl4))
        have hl24 : leM M1 M4 := hl2.trans (hl3.trans hl4)
        refine swp_cutT (σ := List YE) (fun s => [(3, ptrG p), (5, .map (some my)), (6, .map (some md)), (7, .map (some mb)), (8, .int .u64 j.last), (11, .pointer (some ⟨bn, 0, none⟩)), (12, .pointer (some ⟨bp, 0, none⟩)), (34, .slice (some ⟨b, oo, none⟩) xs.length c), (35, .int .i64 xs.length), (36, .int .i64 k)])
          (fun s => pt bp (cl [.slice a1 rs.length c1, .slice a2 ns.length c2, .slice a3 ms.length c3, .slice a4 is.length c4, .slice a5 es.length c5] 44) :: pt bn (cl n.cells 39) :: jdgH M4 p j :: mpO U64 U64 md dn :: mpO U64 U64 mb j.done :: mpO U64 mpV my s :: ysH s :: roM M4 :: [])
          (fun s => (∀ x q, YY ys x q → YY s x q) ∧ (n.kind = 4 → n.code = 0 → YY s n.txn o.fr)) ?_ ?_
        · by_cases hv : n.kind = 4 ∧ n.code = 0
          · obtain ⟨hv1, hv2⟩ := hv
            refine Q.r ?_; (repeat (intro b1; refine Q.r ?_))
            refine mp_keys (g := U64) (r := mpV) (b := my) (m := ys) (fun hky => ?_)
            refine S.y (Y.lk false rfl rfl (fun w => Tryd.zeroValue46 w)) ?_
            cases hz : lkL (α := Nat × List (Int × Bool)) ys n.txn with
            | none =>
              dsimp only
              refine S.y (Y.eqm rfl rfl) ?_
              refine Q.r ?_; (repeat (intro b1; refine Q.r ?_))
              refine S.mkm I64 Value.bool (fun bm => ?_)
              refine Q.r ?_; (repeat (intro b1; refine Q.r ?_))
              refine S.mu (r := mpV) (u := (bm, ([] : List (Int × Bool)))) rfl rfl rfl ?_
              have hput : putL ys n.txn (bm, ([] : List (Int × Bool))) = ys ++ [(n.txn, bm, [])] := by
                refine putL_none fun u hu e => ?_
                have := (lkL_iff (α := Nat × List (Int × Bool)) hky).2 (show (n.txn, u.2) ∈ ys from e ▸ hu)
                rw [hz] at this; cases this
              rw [hput]
              have hky1 : keysOK (ys ++ [(n.txn, bm, ([] : List (Int × Bool)))]) := by rw [← hput]; exact putL_ok hky _ _
              have hlk1 : lkL (α := Nat × List (Int × Bool)) (ys ++ [(n.txn, bm, [])]) n.txn = some (bm, []) := by rw [← hput, lkL_put hky, if_pos rfl]
              refine Q.r ?_; (repeat (intro b1; refine Q.r ?_))
              refine S.y (Y.lk false rfl rfl (fun w => Tryd.zeroValue46 w)) ?_
              rw [hlk1]
              dsimp only
              refine Q.r ?_; (repeat (intro b1; refine Q.r ?_))
              refine S.mu (g := I64) (r := Value.bool) (q := o.fr) (u := true) rfl rfl rfl ?_
              refine Q.r ?_; (repeat (intro b1; refine Q.r ?_))
              have hs1 := YY_set hky1 (k := ys.length) (x := n.txn) (b := bm) (m := []) (by simp) List.nodup_nil o.fr
              refine ⟨(ys ++ [(n.txn, bm, [])]).set ys.length (n.txn, bm, putL [] o.fr true), ⟨rfl, rfl, rfl, rfl, rfl, rfl, rfl, rfl, rfl, rfl, trivial⟩, ?_, fun x q hq => hs1.2.2 x q (YY_new hz x q hq), fun _ _ => hs1.2.1⟩
              have hset : (ys ++ [(n.txn, bm, ([] : List (Int × Bool)))]).set ys.length (n.txn, bm, putL [] o.fr true) = ys ++ [(n.txn, bm, putL [] o.fr true)] := by
                rw [List.set_append_right _ _ (Nat.le_refl _), Nat.sub_self, List.set_cons_zero]
              have hc := my_set (my := my) (k := ys.length) (ys := ys ++ [(n.txn, bm, [])]) (x := n.txn) (b := bm) (m := []) (m' := putL [] o.fr true) (by simp) (L := ysH (ys ++ [(n.txn, bm, putL [] o.fr true)]) :: pt bp (cl [.slice a1 rs.length c1, .slice a2 ns.length c2, .slice a3 ms.length c3, .slice a4 is.length c4, .slice a5 es.length c5] 44) :: pt bn (cl n.cells 39) :: jdgH M4 p j :: mpO U64 U64 md dn :: mpO U64 U64 mb j.done :: roM M4 :: [])
              rw [hset] at hc ⊢
              refine Ent.trans (M := oneY (bm, putL [] o.fr true) :: ysH ys :: mpO U64 mpV my (ys ++ [(n.txn, bm, [])]) :: pt bp (cl [.slice a1 rs.length c1, .slice a2 ns.length c2, .slice a3 ms.length c3, .slice a4 is.length c4, .slice a5 es.length c5] 44) :: pt bn (cl n.cells 39) :: jdgH M4 p j :: mpO U64 U64 md dn :: mpO U64 U64 mb j.done :: roM M4 :: []) (by exact Go.SX.Ent.go) (Ent.trans (ys_new ys (n.txn, bm, putL [] o.fr true)) (Ent.trans (Ent.perm (.swap _ _ _)) (Ent.trans hc (by exact Go.SX.Ent.go))))
            | some t =>
              obtain ⟨bm, mm⟩ := t
              obtain ⟨k1, hk1'⟩ := ys_idx hz
              dsimp only
              refine S.y (Y.eqm rfl rfl) ?_
              refine Q.r ?_; (repeat (intro b1; refine Q.r ?_))
              refine S.y (Y.lk false rfl rfl (fun w => Tryd.zeroValue46 w)) ?_
              rw [hz]
              dsimp only
              refine Q.r ?_; (repeat (intro b1; refine Q.r ?_))
              refine opsS_ys hk1' ?_
              refine mp_keys (g := I64) (r := Value.bool) (b := bm) (m := mm) (fun hkm => ?_)
              refine S.mu (g := I64) (r := Value.bool) (q := o.fr) (u := true) rfl rfl rfl ?_
              refine Q.r ?_; (repeat (intro b1; refine Q.r ?_))
              have hs1 := YY_set hky hk1' hkm o.fr
              refine ⟨ys.set k1 (n.txn, bm, putL mm o.fr true), ⟨rfl, rfl, rfl, rfl, rfl, rfl, rfl, rfl, rfl, rfl, trivial⟩, ?_, hs1.2.2, fun _ _ => hs1.2.1⟩
              have hkl1 := (List.getElem?_eq_some_iff.1 hk1').1
              refine Ent.trans (M := oneY (bm, putL mm o.fr true) :: ysH (ys.eraseIdx k1) :: mpO U64 mpV my ys :: pt bp (cl [.slice a1 rs.length c1, .slice a2 ns.length c2, .slice a3 ms.length c3, .slice a4 is.length c4, .slice a5 es.length c5] 44) :: pt bn (cl n.cells 39) :: jdgH M4 p j :: mpO U64 U64 md dn :: mpO U64 U64 mb j.done :: roM M4 :: []) (by exact Go.SX.Ent.go) (Ent.trans (ys_in hkl1 (n.txn, bm, putL mm o.fr true)) (Ent.trans (Ent.perm (.swap _ _ _)) (Ent.trans (my_set hk1') (by exact Go.SX.Ent.go))))
          · by_cases hv1 : n.kind = 4
            · have hv2 : ¬ n.code = 0 := fun h => hv ⟨hv1, h⟩
              refine Q.r ?_; (repeat (intro b1; refine Q.r ?_))
              exact ⟨ys, ⟨rfl, rfl, rfl, rfl, rfl, rfl, rfl, rfl, rfl, rfl, trivial⟩, by exact Go.SX.Ent.go, fun _ _ h => h, fun _ h => absurd h hv2⟩
            · refine Q.r ?_; (repeat (intro b1; refine Q.r ?_))
              exact ⟨ys, ⟨rfl, rfl, rfl, rfl, rfl, rfl, rfl, rfl, rfl, rfl, trivial⟩, by exact Go.SX.Ent.go, fun _ _ h => h, fun h => absurd h hv1⟩
        · rintro ys1 ⟨hY, hYn⟩
          have hn64 : n.abs.txn < 18446744073709551616 := by
            have h1 := (hx o hmo).uu.txn.2
            have h2 : n.txn = o.n.txn := congrArg NA.txn he3
            show n.txn < _
            have h3 : o.n.abs.txn = o.n.txn := rfl
            omega
          have hC := OnceC.recs hI.kD (once_cases hI hk2 hY (n := n.abs) hu3.txn hn64 o.fr hYn)
          have hml0 := mail_len hW (by rw [hI.sh]; decide) (by rw [hI.sh]; decide) o.fr n.abs
          generalize planG j o.fr n.abs = pl at hC e1 e2 e3 hml0
          refine Q.r ?_; (repeat (intro b1; refine Q.r ?_))
          refine swp_cutB (σ := JG × List (Int × Int) × (Nat → Option Obj)) (fun s => [(3, ptrG p), (5, .map (some my)), (6, .map (some md)), (7, .map (some mb)), (8, .int .u64 s.1.last), (11, .pointer (some ⟨bn, 0, none⟩)), (12, .pointer (some ⟨bp, 0, none⟩)), (34, .slice (some ⟨b, oo, none⟩) xs.length c), (35, .int .i64 xs.length), (36, .int .i64 k)])
            (fun s => pt bp (cl [.slice a1 rs.length c1, .slice a2 ns.length c2, .slice a3 ms.length c3, .slice a4 is.length c4, .slice a5 es.length c5] 44) :: pt bn (cl n.cells 39) :: jdgH s.2.2 p s.1 :: mpO U64 U64 md s.2.1 :: mpO U64 U64 mb s.1.done :: mpO U64 mpV my ys1 :: ysH ys1 :: roM s.2.2 :: [])
            (fun s => AfterR s.1 (k + 1) (YY ys1) s.2.1 n.abs pl ∧ WG s.1 ∧ leM M4 s.2.2) ?_ ?_
          · refine swp_loop (σ := Nat × JG × List (Int × Int) × (Nat → Option Obj)) (fun s => [(3, ptrG p), (5, .map (some my)), (6, .map (some md)), (7, .map (some mb)), (8, .int .u64 s.2.1.last), (11, .pointer (some ⟨bn, 0, none⟩)), (12, .pointer (some ⟨bp, 0, none⟩)), (34, .slice (some ⟨b, oo, none⟩) xs.length c), (35, .int .i64 xs.length), (36, .int .i64 k), (78, .slice a1 rs.length c1), (79, .int .i64 rs.length), (80, .int .i64 s.1)])
              (fun s => pt bp (cl [.slice a1 rs.length c1, .slice a2 ns.length c2, .slice a3 ms.length c3, .slice a4 is.length c4, .slice a5 es.length c5] 44) :: pt bn (cl n.cells 39) :: jdgH s.2.2.2 p s.2.1 :: mpO U64 U64 md s.2.2.1 :: mpO U64 U64 mb s.2.1.done :: mpO U64 mpV my ys1 :: ysH ys1 :: roM s.2.2.2 :: [])
              (fun s => s.1 ≤ rs.length ∧ ((s.1 = 0 ∧ s.2 = (j, dn, M4)) ∨ (s.1 = 1 ∧ AfterR s.2.1 (k + 1) (YY ys1) s.2.2.1 n.abs pl ∧ WG s.2.1 ∧ leM M4 s.2.2.2))) (fun s => rs.length - s.1) (0, j, dn, M4) ⟨rfl, rfl, rfl, rfl, rfl, rfl, rfl, rfl, rfl, rfl, rfl, rfl, rfl, trivial⟩ (by exact Go.SX.Ent.go) ⟨Nat.zero_le _, .inl ⟨rfl, rfl⟩⟩ ?_
            rintro ⟨q, j2, D2, M6⟩ ⟨hq1, hq2⟩
            dsimp only at hq1 hq2 ⊢
            by_cases hqt : q < rs.length
            · rcases hC with ⟨hC1, _⟩ | ⟨r, hC1, hC2⟩
              · rw [hC1] at e1
                have : rs = [] := List.map_eq_nil_iff.1 e1
                subst this; cases hqt
              · rw [hC1] at e1
                obtain ⟨r1, hrs, f1⟩ := map_one e1
                subst hrs
                have hq0 : q = 0 := by simp at hqt; exact hqt
                subst hq0
                rcases hq2 with ⟨_, hq2⟩ | ⟨h, _⟩
                case inr => cases h
                cases hq2
                obtain ⟨br, or, hra, cr⟩ := SlM.cm (g := NV.cells) (k := 0) (fun _ => rfl) o1.1 rfl rfl
                rw [hra]
                have hr1 : rightN r1.abs = true := by rw [f1]; exact right_of_app hC2.e
                have hz1 : NZ r1.abs := by rw [f1]; exact hC2.z
                have kk : r1.kind = r.kind := congrArg NA.kind f1
                have hap : ∀ (D3 : List (Int × Int)) (mb3 : List (Int × Int)) (L : List HP), CallsS Tryd.prog 9 [ptrG p, r1.val] (jdgH M4 p j :: roM M4 :: L) (appR r M4 p j L) := fun _ _ L => by
                  rw [← f1]
                  exact GApply_spec' r1 M4 p j L hW (o1.2 r1 (List.mem_singleton.2 rfl)) (OkN.right hr1) hTM (NumN.right hr1 hz1) hz1.t1 (fun h => absurd h (by rw [kk]; exact hC2.k6))
                by_cases h17 : r1.kind = 17
                · rcases hC2.c with ⟨hno, _⟩ | ⟨_, d1, d2, d3, d4, d5, d6, d7⟩
                  · exact absurd (kk.symm.trans h17) hno
                  have tt : r1.txn = r.txn := congrArg NA.txn f1
                  have bt : r1.batch = r.batch := congrArg NA.batch f1
                  have st : r1.stamp = r.stamp := congrArg NA.stamp f1
                  have pt1 : r1.parts = r.parts := congrArg NA.parts f1
                  have hst : r1.stamp = j.last + 1 := st.trans d2
                  have hpl1 : r1.parts.length ≤ 1000000 := (OkN.right hr1).p
                  have hll0 := hI.l0
                  have hll1 := hI.l1
                  refine Q.rn ?_; (repeat (intro b1; refine Q.rn ?_))
                  refine S.y (Y.lk false rfl rfl (fun w => Tryd.zeroValue30 w)) ?_
                  rw [show lkL dn r1.txn = none from by rw [tt]; exact d1]
                  dsimp only
                  refine Q.rn ?_; (repeat (intro b1; refine Q.rn ?_))
                  refine S.y (Y.add rfl rfl) ?_
                  rw [wrap_u64 (by omega) (by omega)]
                  refine Q.rn ?_; (repeat (intro b1; refine Q.rn ?_))
                  refine S.y (Y.lk false rfl rfl (fun w => Tryd.zeroValue30 w)) ?_
                  rw [show lkL j.done r1.batch = none from by rw [bt]; exact d3]
                  dsimp only
                  refine Q.rn ?_; (repeat (intro b1; refine Q.rn ?_))
                  revert b1
                  intro b14
                  refine swp_cutB (σ := Unit) (fun _ => [(3, ptrG p), (5, .map (some my)), (6, .map (some md)), (7, .map (some mb)), (11, .pointer (some ⟨bn, 0, none⟩)), (12, .pointer (some ⟨bp, 0, none⟩)), (14, .pointer (some ⟨b14, 0, none⟩)), (34, .slice (some ⟨b, oo, none⟩) xs.length c), (35, .int .i64 xs.length), (36, .int .i64 k), (78, .slice (some ⟨br, or, none⟩) [r1].length c1), (79, .int .i64 [r1].length), (80, .int .i64 (0 : Nat))]) (fun _ => pt b14 (cl r1.cells 39) :: pt bp (cl [.slice (some ⟨br, or, none⟩) [r1].length c1, .slice a2 ns.length c2, .slice a3 ms.length c3, .slice a4 is.length c4, .slice a5 es.length c5] 44) :: pt bn (cl n.cells 39) :: jdgH M4 p j :: mpO U64 U64 md dn :: mpO U64 U64 mb j.done :: mpO U64 mpV my ys1 :: ysH ys1 :: roM M4 :: []) (fun _ => True) ?_ ?_
                  · refine swp_loop (σ := Nat) (fun i => [(3, ptrG p), (5, .map (some my)), (6, .map (some md)), (7, .map (some mb)), (11, .pointer (some ⟨bn, 0, none⟩)), (12, .pointer (some ⟨bp, 0, none⟩)), (14, .pointer (some ⟨b14, 0, none⟩)), (34, .slice (some ⟨b, oo, none⟩) xs.length c), (35, .int .i64 xs.length), (36, .int .i64 k), (78, .slice (some ⟨br, or, none⟩) [r1].length c1), (79, .int .i64 [r1].length), (80, .int .i64 (0 : Nat)), (107, .slice r1.pa r1.parts.length r1.pc), (108, .int .i64 r1.parts.length), (109, .int .i64 i)]) (fun _ => pt b14 (cl r1.cells 39) :: pt bp (cl [.slice (some ⟨br, or, none⟩) [r1].length c1, .slice a2 ns.length c2, .slice a3 ms.length c3, .slice a4 is.length c4, .slice a5 es.length c5] 44) :: pt bn (cl n.cells 39) :: jdgH M4 p j :: mpO U64 U64 md dn :: mpO U64 U64 mb j.done :: mpO U64 mpV my ys1 :: ysH ys1 :: roM M4 :: []) (fun i => i ≤ r1.parts.length) (fun i => r1.parts.length - i) 0 ⟨rfl, rfl, rfl, rfl, rfl, rfl, rfl, rfl, rfl, rfl, rfl, rfl, rfl, rfl, rfl, rfl, trivial⟩ (by exact Go.SX.Ent.go) (Nat.zero_le _) ?_
                    intro i hi
                    by_cases hit : i < r1.parts.length
                    · obtain ⟨q, hq⟩ := mem_get hit
                      obtain ⟨bq, oq, hia, cq⟩ := SlM.cm (g := fun z : Int => [I64 z]) (fun _ => rfl) (by rw [flat_I64]; exact (o1.2 r1 (List.mem_singleton.2 rfl)).p) hq rfl
                      rw [hia]
                      obtain ⟨t, ht1, ht2⟩ := d4 q (by rw [← pt1]; exact List.mem_of_getElem? hq)
                      obtain ⟨k1, hk1'⟩ := ys_idx ht1
                      refine Q.rn ?_; (repeat (intro b1; refine Q.rn ?_))
                      refine S.y (Y.lk false rfl rfl (fun w => Tryd.zeroValue46 w)) ?_
                      rw [show lkL (α := Nat × List (Int × Bool)) ys1 r1.txn = some t from by rw [tt]; exact ht1]
                      dsimp only
                      refine Q.rn ?_; (repeat (intro b1; refine Q.rn ?_))
                      refine opsS_ys hk1' ?_
                      refine S.y (Y.lk false rfl rfl (fun w => Tryd.zeroValue4 w)) ?_
                      rw [show lkL t.2 q = some true from ht2]
                      dsimp only
                      refine Q.rn ?_; (repeat (intro b1; refine Q.rn ?_))
                      refine ⟨i + 1, ⟨rfl, rfl, rfl, rfl, rfl, rfl, rfl, rfl, rfl, rfl, rfl, rfl, rfl, rfl, rfl, rfl, trivial⟩, Ent.trans (ys_back hk1') (by exact Go.SX.Ent.go), hit, by omega⟩
                    · refine Q.rn ?_; (repeat (intro b1; refine Q.rn ?_))
                      exact ⟨(), ⟨rfl, rfl, rfl, rfl, rfl, rfl, rfl, rfl, rfl, rfl, rfl, rfl, rfl, trivial⟩, by exact Go.SX.Ent.go, trivial⟩
                  · rintro _ _
                    refine Q.rn ?_; (repeat (intro b1; refine Q.rn ?_))
                    refine Q.dgo [true] [13, 14] [] [0, 1, 2, 3, 4, 5, 6, 7, 8, 9, 10, 11, 12, 13, 14] ?_
                    refine Q.rd ?_; (repeat (intro b1; refine Q.rd ?_))
                    refine D.e rfl rfl rfl ?_
                    refine S.mu (g := U64) (q := r1.txn) (r := U64) (u := r1.stamp) rfl rfl rfl ?_
                    refine Q.rn ?_; (repeat (intro b1; refine Q.rn ?_))
                    refine Q.rd ?_; (repeat (intro b1; refine Q.rd ?_))
                    refine D.e rfl rfl rfl ?_
                    refine S.mu (g := U64) (q := r1.batch) (r := U64) (u := r1.stamp) rfl rfl rfl ?_
                    refine Q.rn ?_; (repeat (intro b1; refine Q.rn ?_))
                    refine Q.rd ?_; (repeat (intro b1; refine Q.rd ?_))
                    refine Q.rn ?_; (repeat (intro b1; refine Q.rn ?_))
                    refine S.cg p rfl (hap [] [] _) ?_
                    rintro _ _ ⟨M7, rfl, hl7, rfl⟩
                    rw [hC2.e]
                    refine Q.rn ?_; (repeat (intro b1; refine Q.rn ?_))
                    refine ⟨(1, appG j r, putL dn r.txn r.stamp, M7), ⟨rfl, rfl, rfl, rfl, congrArg some (by rw [d7, st]), rfl, rfl, rfl, rfl, rfl, rfl, rfl, rfl, trivial⟩, ?_, ⟨Nat.le_refl _, .inr ⟨rfl, d5, hW.app hC2.z.t0 hC2.z.s hC2.z.m, hl7⟩⟩, by simp⟩
                    dsimp only
                    rw [d6, ← tt, ← bt, ← st]
                    exact Go.SX.Ent.go
                · rcases hC2.c with ⟨_, d1, d2, d3⟩ | ⟨hno, _⟩
                  case inr => exact absurd (kk.trans hno) h17
                  refine Q.rn ?_; (repeat (intro b1; refine Q.rn ?_))
                  refine S.cg p rfl (hap [] [] _) ?_
                  rintro _ _ ⟨M7, rfl, hl7, rfl⟩
                  rw [hC2.e]
                  refine Q.rn ?_; (repeat (intro b1; refine Q.rn ?_))
                  refine ⟨(1, appG j r, dn, M7), ⟨rfl, rfl, rfl, rfl, congrArg some (by rw [d3]), rfl, rfl, rfl, rfl, rfl, rfl, rfl, rfl, trivial⟩, ?_, ⟨Nat.le_refl _, .inr ⟨rfl, d1, hW.app hC2.z.t0 hC2.z.s hC2.z.m, hl7⟩⟩, by simp⟩
                  dsimp only
                  rw [d2]
                  exact Go.SX.Ent.go
            · refine Q.rn ?_; (repeat (intro b1; refine Q.rn ?_))
              refine ⟨(j2, D2, M6), ⟨rfl, rfl, rfl, rfl, rfl, rfl, rfl, rfl, rfl, rfl, trivial⟩, by exact Go.SX.Ent.go, ?_⟩
              rcases hq2 with ⟨h0, h2⟩ | ⟨_, h2⟩
              · cases h2
                rcases hC with ⟨_, hC2⟩ | ⟨r, hC1, _⟩
                · exact ⟨hC2, hW, leM.refl M4⟩
                · rw [hC1] at e1
                  have := congrArg List.length e1
                  simp at this
                  omega
              · exact h2
          · rintro ⟨j2, D2, M6⟩ ⟨hA, hW2, hl6⟩
            dsimp only at hA hW2 hl6 ⊢
            refine Q.r ?_; (repeat (intro b1; refine Q.r ?_))
            refine swp_cutB (σ := JG × (Nat → Option Obj)) (fun s => [(3, ptrG p), (5, .map (some my)), (6, .map (some md)), (7, .map (some mb)), (8, .int .u64 s.1.last), (11, .pointer (some ⟨bn, 0, none⟩)), (12, .pointer (some ⟨bp, 0, none⟩)), (34, .slice (some ⟨b, oo, none⟩) xs.length c), (35, .int .i64 xs.length), (36, .int .i64 k)])
              (fun s => pt bp (cl [.slice a1 rs.length c1, .slice a2 ns.length c2, .slice a3 ms.length c3, .slice a4 is.length c4, .slice a5 es.length c5] 44) :: pt bn (cl n.cells 39) :: jdgH s.2 p s.1 :: mpO U64 U64 md D2 :: mpO U64 U64 mb s.1.done :: mpO U64 mpV my ys1 :: ysH ys1 :: roM s.2 :: []) (fun s => GI s.1 (k + 1) (YY ys1) D2 ∧ WG s.1 ∧ leM M6 s.2) ?_ ?_
            · refine swp_loop (σ := Nat × JG × (Nat → Option Obj)) (fun s => [(3, ptrG p), (5, .map (some my)), (6, .map (some md)), (7, .map (some mb)), (8, .int .u64 s.2.1.last), (11, .pointer (some ⟨bn, 0, none⟩)), (12, .pointer (some ⟨bp, 0, none⟩)), (34, .slice (some ⟨b, oo, none⟩) xs.length c), (35, .int .i64 xs.length), (36, .int .i64 k), (139, .slice a2 ns.length c2), (140, .int .i64 ns.length), (141, .int .i64 s.1)])
                (fun s => pt bp (cl [.slice a1 rs.length c1, .slice a2 ns.length c2, .slice a3 ms.length c3, .slice a4 is.length c4, .slice a5 es.length c5] 44) :: pt bn (cl n.cells 39) :: jdgH s.2.2 p s.2.1 :: mpO U64 U64 md D2 :: mpO U64 U64 mb s.2.1.done :: mpO U64 mpV my ys1 :: ysH ys1 :: roM s.2.2 :: [])
                (fun s => s.1 ≤ ns.length ∧ ((s.1 = 0 ∧ s.2 = (j2, M6)) ∨ (s.1 = 1 ∧ GI s.2.1 (k + 1) (YY ys1) D2 ∧ WG s.2.1 ∧ leM M6 s.2.2))) (fun s => ns.length - s.1) (0, j2, M6) ⟨rfl, rfl, rfl, rfl, rfl, rfl, rfl, rfl, rfl, rfl, rfl, rfl, rfl, trivial⟩ (by exact Go.SX.Ent.go) ⟨Nat.zero_le _, .inl ⟨rfl, rfl⟩⟩ ?_
              rintro ⟨q, j3, M7⟩ ⟨hq1, hq2⟩
              dsimp only at hq1 hq2 ⊢
              by_cases hqt : q < ns.length
              · rcases hA.n with ⟨hC1, _⟩ | ⟨r, hC1, hz, h16, hE, h22, hG, hdn, hls⟩
                · rw [hC1] at e2
                  have : ns = [] := List.map_eq_nil_iff.1 e2
                  subst this; cases hqt
                · rw [hC1] at e2
                  obtain ⟨r1, hns, f1⟩ := map_one e2
                  subst hns
                  have hq0 : q = 0 := by simp at hqt; exact hqt
                  subst hq0
                  rcases hq2 with ⟨_, hq2⟩ | ⟨h, _⟩
                  case inr => cases h
                  cases hq2
                  have o2' : okNs M6 a2 [r1] := o2.mono hl6
                  obtain ⟨br, or, hra, cr⟩ := SlM.cm (g := NV.cells) (k := 0) (fun _ => rfl) o2'.1 rfl rfl
                  rw [hra]
                  have hr1 : rightN r1.abs = true := by rw [f1]; exact right_of_app hE
                  have hz1 : NZ r1.abs := by rw [f1]; exact hz
                  have kk : r1.kind = r.kind := congrArg NA.kind f1
                  have tt : r1.txn = r.txn := congrArg NA.txn f1
                  have hap : ∀ (L : List HP), CallsS Tryd.prog 9 [ptrG p, r1.val] (jdgH M6 p j2 :: roM M6 :: L) (appR r M6 p j2 L) := fun L => by
                    rw [← f1]
                    exact GApply_spec' r1 M6 p j2 L hW2 (o2'.2 r1 (List.mem_singleton.2 rfl)) (OkN.right hr1) (hTM.mono hl6) (NumN.right hr1 hz1) hz1.t1 (fun h => absurd h (by rw [kk]; exact h16))
                  by_cases k22 : r1.kind = 22
                  · refine Q.rn ?_; (repeat (intro b1; refine Q.rn ?_))
                    refine S.y (Y.lk false rfl rfl (fun w => Tryd.zeroValue30 w)) ?_
                    rw [show lkL D2 r1.txn = none from by rw [tt]; exact h22 (kk.symm.trans k22)]
                    dsimp only
                    refine Q.rn ?_; (repeat (intro b1; refine Q.rn ?_))
                    refine S.cg p rfl (hap _) ?_
                    rintro _ _ ⟨M8, rfl, hl8, rfl⟩
                    rw [hE]
                    refine Q.rn ?_; (repeat (intro b1; refine Q.rn ?_))
                    refine ⟨(1, appG j2 r, M8), ⟨rfl, rfl, rfl, rfl, congrArg some (by rw [hls]), rfl, rfl, rfl, rfl, rfl, rfl, rfl, rfl, trivial⟩, ?_, ⟨Nat.le_refl _, .inr ⟨rfl, hG, hW2.app hz.t0 hz.s hz.m, hl8⟩⟩, by simp⟩
                    dsimp only
                    rw [hdn]
                    exact Go.SX.Ent.go
                  · refine Q.rn ?_; (repeat (intro b1; refine Q.rn ?_))
                    refine S.cg p rfl (hap _) ?_
                    rintro _ _ ⟨M8, rfl, hl8, rfl⟩
                    rw [hE]
                    refine Q.rn ?_; (repeat (intro b1; refine Q.rn ?_))
                    refine ⟨(1, appG j2 r, M8), ⟨rfl, rfl, rfl, rfl, congrArg some (by rw [hls]), rfl, rfl, rfl, rfl, rfl, rfl, rfl, rfl, trivial⟩, ?_, ⟨Nat.le_refl _, .inr ⟨rfl, hG, hW2.app hz.t0 hz.s hz.m, hl8⟩⟩, by simp⟩
                    dsimp only
                    rw [hdn]
                    exact Go.SX.Ent.go
              · refine Q.rn ?_; (repeat (intro b1; refine Q.rn ?_))
                refine ⟨(j3, M7), ⟨rfl, rfl, rfl, rfl, rfl, rfl, rfl, rfl, rfl, rfl, trivial⟩, by exact Go.SX.Ent.go, ?_⟩
                rcases hq2 with ⟨h0, h2⟩ | ⟨_, h2⟩
                · cases h2
                  rcases hA.n with ⟨_, hC2⟩ | ⟨r, hC1, _⟩
                  · exact ⟨hC2, hW2, leM.refl M6⟩
                  · rw [hC1] at e2
                    have := congrArg List.length e2
                    simp at this
                    omega
                · exact h2
            · rintro ⟨j3, M7⟩ ⟨hG, hW3, hl7⟩
              dsimp only at hG hW3 hl7 ⊢
              refine Q.r ?_; (repeat (intro b1; refine Q.r ?_))
              refine swp_cutB (σ := Unit) (fun _ => [(3, ptrG p), (5, .map (some my)), (6, .map (some md)), (7, .map (some mb)), (8, .int .u64 j3.last), (11, .pointer (some ⟨bn, 0, none⟩)), (34, .slice (some ⟨b, oo, none⟩) xs.length c), (35, .int .i64 xs.length), (36, .int .i64 k)]) (fun _ => pt bn (cl n.cells 39) :: jdgH M7 p j3 :: mpO U64 U64 md D2 :: mpO U64 U64 mb j3.done :: mpO U64 mpV my ys1 :: ysH ys1 :: roM M7 :: []) (fun _ => True) ?_ ?_
              · refine swp_loop (σ := Nat) (fun q => [(3, ptrG p), (5, .map (some my)), (6, .map (some md)), (7, .map (some mb)), (8, .int .u64 j3.last), (11, .pointer (some ⟨bn, 0, none⟩)), (34, .slice (some ⟨b, oo, none⟩) xs.length c), (35, .int .i64 xs.length), (36, .int .i64 k), (163, .slice a3 ms.length c3), (164, .int .i64 ms.length), (165, .int .i64 q)]) (fun q => pt bn (cl n.cells 39) :: jdgH M7 p j3 :: mpO U64 U64 md D2 :: mpO U64 U64 mb j3.done :: mpO U64 mpV my ys1 :: ysH ys1 :: roM M7 :: []) (fun q => q ≤ ms.length) (fun q => ms.length - q) 0 ⟨rfl, rfl, rfl, rfl, rfl, rfl, rfl, rfl, rfl, rfl, rfl, rfl, trivial⟩ (by exact Go.SX.Ent.go) (Nat.zero_le _) ?_
                intro q hq
                have hml : ms.length ≤ 5 := by
                  have h := congrArg List.length e3
                  rw [List.length_map] at h; omega
                by_cases hqt : q < ms.length
                · obtain ⟨m, hm⟩ := mem_get hqt
                  have o3' : okMs M7 a3 ms := o3.mono (hl6.trans hl7)
                  obtain ⟨bm, om, hma, cm⟩ := SlM.cm (g := mcells) (fun _ => rfl) o3'.1 hm rfl
                  rw [hma]
                  have hmm : (m.1, m.2.abs) ∈ pl.mail := by rw [← e3]; exact List.mem_map_of_mem (f := fun m : Int × NV => (m.1, m.2.abs)) (List.mem_of_getElem? hm)
                  have hfact := hA.m _ hmm
                  dsimp only at hfact
                  by_cases k5 : m.2.kind = 5
                  · cases hlk : lkL D2 m.2.txn with
                    | none =>
                      refine Q.rn ?_; (repeat (intro b1; refine Q.rn ?_))
                      refine S.y (Y.lk false rfl rfl (fun w => Tryd.zeroValue30 w)) ?_
                      rw [hlk]
                      dsimp only
                      refine Q.rn ?_; (repeat (intro b1; refine Q.rn ?_))
                      exact ⟨q + 1, ⟨rfl, rfl, rfl, rfl, rfl, rfl, rfl, rfl, rfl, rfl, rfl, rfl, trivial⟩, by exact Go.SX.Ent.go, hqt, by omega⟩
                    | some sv =>
                      have hs0 := (hG.dd _ _ hlk).2
                      by_cases k7 : n.kind = 7
                      · refine Q.rn ?_; (repeat (intro b1; refine Q.rn ?_))
                        refine S.y (Y.lk false rfl rfl (fun w => Tryd.zeroValue30 w)) ?_
                        rw [hlk]
                        dsimp only
                        refine Q.rn ?_; (repeat (intro b1; refine Q.rn ?_))
                        exact ⟨q + 1, ⟨rfl, rfl, rfl, rfl, rfl, rfl, rfl, rfl, rfl, rfl, rfl, rfl, trivial⟩, by exact Go.SX.Ent.go, hqt, by omega⟩
                      · rcases hfact k5 with h | h | ⟨hc0, hcs⟩
                        · exact absurd h k7
                        · rw [h] at hlk; cases hlk
                        · rw [hlk] at hcs
                          injection hcs with hcs
                          subst hcs
                          refine Q.rn ?_; (repeat (intro b1; refine Q.rn ?_))
                          refine S.y (Y.lk false rfl rfl (fun w => Tryd.zeroValue30 w)) ?_
                          rw [hlk]
                          dsimp only
                          refine Q.rn ?_; (repeat (intro b1; refine Q.rn ?_))
                          refine S.y (Y.lk false rfl rfl (fun w => Tryd.zeroValue30 w)) ?_
                          rw [hlk]
                          dsimp only
                          refine Q.rn ?_; (repeat (intro b1; refine Q.rn ?_))
                          exact ⟨q + 1, ⟨rfl, rfl, rfl, rfl, rfl, rfl, rfl, rfl, rfl, rfl, rfl, rfl, trivial⟩, by exact Go.SX.Ent.go, hqt, by omega⟩
                  · refine Q.rn ?_; (repeat (intro b1; refine Q.rn ?_))
                    exact ⟨q + 1, ⟨rfl, rfl, rfl, rfl, rfl, rfl, rfl, rfl, rfl, rfl, rfl, rfl, trivial⟩, by exact Go.SX.Ent.go, hqt, by omega⟩
                · refine Q.rn ?_; (repeat (intro b1; refine Q.rn ?_))
                  exact ⟨(), ⟨rfl, rfl, rfl, rfl, rfl, rfl, rfl, rfl, rfl, trivial⟩, by exact Go.SX.Ent.go, trivial⟩
              · rintro _ _
                refine Q.r ?_; (repeat (intro b1; refine Q.r ?_))
                refine S.rg rfl (fun r => ?_)
                refine Q.r ?_; (repeat (intro b1; refine Q.r ?_))
                refine swp_loop (σ := List Nat) (fun _ => [(3, ptrG p), (5, .map (some my)), (6, .map (some md)), (7, .map (some mb)), (8, .int .u64 j3.last), (34, .slice (some ⟨b, oo, none⟩) xs.length c), (35, .int .i64 xs.length), (36, .int .i64 k), (205, .pointer (some ⟨r, 0, none⟩))])
                  (fun vis => jdgH M7 p j3 :: itO U64 U64 mb r j3.done vis :: mpO U64 U64 md D2 :: mpO U64 mpV my ys1 :: ysH ys1 :: roM M7 :: []) (fun vis => vis.Nodup ∧ ∀ i ∈ vis, i < j3.done.length) (fun vis => j3.done.length - vis.length) [] ⟨rfl, rfl, rfl, rfl, rfl, rfl, rfl, rfl, rfl, trivial⟩ (by exact Go.SX.Ent.go) ⟨by simp, by simp⟩ ?_
                rintro vis ⟨hv1, hv2⟩
                refine Q.r ?_; (repeat (intro b1; refine Q.r ?_))
                refine S.nx rfl (fun hend => ?_) (fun i u hu hi => ?_)
                · refine Q.r ?_; (repeat (intro b1; refine Q.r ?_))
                  refine ⟨(k + 1, j3, D2, ys1, M7), ⟨rfl, rfl, rfl, rfl, rfl, rfl, rfl, congrArg some (by simp), trivial⟩, Ent.trans (Ent.cons itO_map) (by exact Go.SX.Ent.go), ⟨by dsimp only; omega, by dsimp only; omega, hG, hW3, hl24.trans (hl6.trans hl7)⟩, by dsimp only; omega⟩
                · obtain ⟨m1, m2, m3⟩ := vis_more hv1 hv2 (List.getElem?_eq_some_iff.1 hu).1 hi
                  have hlk : lkL j3.done u.1 = some u.2 := (lkL_iff hG.kd).2 (List.mem_of_getElem? hu)
                  refine Q.r ?_; (repeat (intro b1; refine Q.r ?_))
                  refine S.y (Y.en rfl hu) ?_
                  refine Q.r ?_; (repeat (intro b1; refine Q.r ?_))
                  refine S.cgn p rfl (GDone_spec M7 p j3 u.1 _) ?_
                  rintro _ _ ⟨rfl, rfl⟩
                  rw [hlk]
                  dsimp only [Option.getD_some, Option.isSome_some]
                  refine Q.r ?_; (repeat (intro b1; refine Q.r ?_))
                  exact ⟨vis ++ [i], ⟨rfl, rfl, rfl, rfl, rfl, rfl, rfl, rfl, rfl, trivial⟩, by exact Go.SX.Ent.go, ⟨m1, m2⟩, by simp; omega⟩
    · have hke : k = xs.length := by omega
      subst hke
      refine Q.r ?_; (repeat (intro b1; refine Q.r ?_))
      exact ⟨(M2, j), ⟨rfl, rfl, trivial⟩, by exact Go.SX.Ent.go, trivial⟩
  · rintro ⟨M2, j⟩ _
    refine Q.r ?_; (repeat (intro b1; refine Q.r ?_))
    refine S.cgn p rfl (GLast_spec M2 p j _) ?_
    rintro _ _ ⟨rfl, rfl⟩
    refine Q.r ?_; (repeat (intro b1; refine Q.r ?_))
    exact N.r1 (RV.tmp rfl RV.nil) (by exact Go.SX.Ent.go) (congrArg Value.bool (decide_eq_true rfl))
end Go.Proofs.YtiampehfpgcogaaDoor
