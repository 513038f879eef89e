/- The juror: Apply. No condition. -/
import Derived.Test.YtjidejcehmamkaaDoorJuG
set_option linter.unusedVariables false
set_option linter.unusedSimpArgs false
namespace Go.Proofs.YtjidejcehmamkaaDoor
open Go Go.SX
attribute [local irreducible] swp opsS thenS blockS retS CallsS St Ent YieldS anyS drawS
theorem P_one (xs : List Int) : (xs.map I64).all (·.oneCell') = true := by simp [Value.oneCell']
theorem CloneP_spec (a : Option Addr) (c : Nat) (xs : List Int) (A : List HP) (h : RdS A a xs.length 1 (xs.map I64)) (hn : xs.length ≤ 1000000) :
    CallsS Tryd.prog 19 [.slice a xs.length c] A (fun v L' => ∃ a' c', v = .slice a' xs.length c' ∧ L' = slO 3 1 a' xs.length c' (xs.map I64) :: A) := by
  refine CallsS.of_body Tryd.func19 rfl rfl rfl ?_
  cases a with
  | none =>
    have hx : xs = [] := by
      rcases h.2 with h0 | ⟨_, _, h0, _⟩
      · exact List.eq_nil_of_length_eq_zero h0
      · cases h0
    subst hx
    refine Q.r ?_; (repeat (intro b1; refine Q.r ?_))
    exact N.r1 (RV.tmp rfl RV.nil) slO_nil ⟨none, 0, rfl, rfl⟩
  | some ad =>
    refine Q.r ?_; (repeat (intro b1; refine Q.r ?_))
    refine opsS_ent (slO_fold (sz := 1) (m := 0) rfl) ?_
    refine S.app0 rfl rfl rfl (SrcS.rd h.sub (P_one _)) (by rfl) (by omega) (by omega) (fun a5 c5 => ?_)
    refine Q.r ?_; (repeat (intro b1; refine Q.r ?_))
    exact N.r1 (RV.tmp rfl RV.nil) (Ent.refl _) ⟨a5, c5, rfl, rfl⟩
theorem putL_map {κ α β : Type} [DecidableEq κ] (f : α → β) (m : List (κ × α)) (x : κ) (a : α) : (putL m x a).map (fun u => (u.1, f u.2)) = putL (m.map fun u => (u.1, f u.2)) x (f a) := by
  unfold putL
  rw [List.any_map]
  have : ((fun p : κ × β => decide (p.1 = x)) ∘ fun u : κ × α => (u.1, f u.2)) = fun p => decide (p.1 = x) := rfl
  rw [this]
  cases m.any fun p => decide (p.1 = x) with
  | true =>
    simp only [if_true, List.map_map]
    refine List.map_congr_left fun u _ => ?_
    show (_ : κ × β) = if u.1 = x then (x, f a) else (u.1, f u.2)
    by_cases h : u.1 = x
    · simp [h]
    · simp [h]
  | false => simp
theorem delL_map {κ α β : Type} [DecidableEq κ] (f : α → β) (m : List (κ × α)) (x : κ) : (delL m x).map (fun u => (u.1, f u.2)) = delL (m.map fun u => (u.1, f u.2)) x := by
  unfold delL
  rw [List.filter_map]; rfl
theorem JQ.put {M : Nat → Option Obj} {j j' : JS} {sf : Int} {ps : List (Int × PV)} (h : JQ M j sf ps) {t : Int} {v : PV} (hv : SlM M v.a v.l.length 1 (v.l.map I64)) (hj : j'.parts = putL j.parts t v.l) : JQ M j' sf (putL ps t v) := by
  refine ⟨h.s1, h.s2, by rw [hj, ← h.pt, putL_map (fun v : PV => v.l)], fun u hu => ?_⟩
  unfold putL at hu
  split at hu
  · obtain ⟨w, hw, rfl⟩ := List.mem_map.1 hu
    split
    · exact hv
    · exact h.ok w hw
  · rcases List.mem_append.1 hu with hu | hu
    · exact h.ok u hu
    · rw [List.mem_singleton.1 hu]; exact hv
theorem JQ.del {M : Nat → Option Obj} {j j' : JS} {sf : Int} {ps : List (Int × PV)} (h : JQ M j sf ps) {t : Int} (hj : j'.parts = delL j.parts t) : JQ M j' sf (delL ps t) :=
  ⟨h.s1, h.s2, by rw [hj, ← h.pt, delL_map (fun v : PV => v.l)], fun u hu => h.ok u (List.mem_filter.1 hu).1⟩
theorem JQ.same {M : Nat → Option Obj} {j j' : JS} {sf : Int} {ps : List (Int × PV)} (h : JQ M j sf ps) (hj : j'.parts = j.parts) : JQ M j' sf ps := ⟨h.s1, h.s2, by rw [hj, h.pt], h.ok⟩
set_option maxHeartbeats 2000000 in
theorem Apply_spec' (n : NV) (M : Nat → Option Obj) (p : Nat) (j : JS) (k : Nat) (L : List HP) (hw : WFK j.v k) (hk : k ≤ 10000) (hn : okN M n) (hN : OkN n) (hT : TabM M) (h0 : NumN n) :
    CallsS Tryd.prog 8 [ptrJ p, n.val] (jurH M p j :: roM M :: L) (fun r L' => ∃ M', r = .int .i64 (appE j n.abs) ∧ leM M M' ∧ L' = jurH M' p (appS j n.abs) :: roM M' :: L) := by
  refine CallsS.of_body Tryd.func8 rfl rfl rfl ?_
  refine Q.r ?_; (repeat (intro b1; refine Q.r ?_))
  refine S.cr rfl (NRight_spec n _ hn.rd hN hT.rd h0.kind) ?_
  rintro _ _ ⟨rfl, rfl⟩
  cases hr : rightN n.abs with
  | false =>
    have hE : appE j n.abs = 4 := by unfold appE; rw [hr, if_pos rfl]
    have hS : appS j n.abs = j := by unfold appS; rw [hE]; rfl
    rw [hE, hS]
    refine Q.r ?_; (repeat (intro b1; refine Q.r ?_))
    exact N.r1 (RV.tmp rfl RV.nil) (by repeat (first | exact Ent.refl _ | exact Ent.nil | refine Ent.pick ?_ | refine Ent.nilS ?_ | refine Ent.nilM ?_ | refine Ent.drop ?_)) ⟨M, rfl, leM.refl M, rfl⟩
  | true =>
  by_cases h12 : n.kind = 12
  · have hE : appE j n.abs = lockE j.v n.txn n.after (n.ops.map OV.abs) := by
      unfold appE; rw [hr, if_neg (by decide), if_pos (show n.abs.kind = 12 from h12)]
    refine Q.r ?_; (repeat (intro b1; refine Q.r ?_))
    refine swp_jur p (fun v mp md self ps hq => ?_)
    refine Q.dgo [true, false, false, false, true] [11] [] [0, 1, 2, 3, 4, 5, 6, 7, 8, 9, 10, 11, 12] ?_
    refine Q.rd ?_; (repeat (intro b1; refine Q.rd ?_))
    refine D.e rfl rfl rfl ?_
    refine S.cv v rfl (Lock_spec v j.v ⟨n.txn, n.after, n.oa, n.oc, n.ops⟩ _ hw.wf.ops hn.rd.o hN.o hN.ov (by have := hw.wf.d1; have := hw.wf.d2; omega)) ?_
    rintro _ _ ⟨rfl, rfl⟩
    dsimp only
    rw [hE]
    by_cases hz : lockE j.v n.txn n.after (n.ops.map OV.abs) = 0
    · have hS : appS j n.abs = ⟨lockS j.v n.txn n.after (n.ops.map OV.abs), putL j.parts n.txn n.parts, j.done⟩ := by
        unfold appS; rw [hE, hz, if_neg (by decide), if_pos (show n.abs.kind = 12 from h12)]
      have hdim : j.v.dim = (lockS j.v n.txn n.after (n.ops.map OV.abs)).dim := by unfold lockS; rw [if_pos hz]
      rw [hS, hz]
      refine Q.r ?_; (repeat (intro b1; refine Q.r ?_))
      refine Q.rd ?_; (repeat (intro b1; refine Q.rd ?_))
      refine Q.r ?_; (repeat (intro b1; refine Q.r ?_))
      refine Q.dgo [true, true] [8, 9] [] [0, 1, 2, 3, 4, 5, 6, 7, 8, 9] ?_
      refine Q.rd ?_; (repeat (intro b1; refine Q.rd ?_))
      refine D.e rfl rfl rfl ?_
      refine S.cr rfl (CloneP_spec n.pa n.pc n.parts _ hn.rd.p hN.p) ?_
      rintro _ _ ⟨a5, c5, rfl, rfl⟩
      refine Q.r ?_; (repeat (intro b1; refine Q.r ?_))
      refine D.e rfl rfl rfl ?_
      refine S.mu (r := PV.val) (u := ⟨a5, c5, n.parts⟩) rfl rfl rfl ?_
      refine opsS_abs a5 (fun M2 hl2 hs2 => ?_)
      refine Q.r ?_; (repeat (intro b1; refine Q.r ?_))
      refine Q.rd ?_; (repeat (intro b1; refine Q.rd ?_))
      refine Q.r ?_; (repeat (intro b1; refine Q.r ?_))
      refine N.r1 (RV.tmp rfl RV.nil) ?_ ⟨M2, rfl, hl2, rfl⟩
      refine Ent.trans (jclose (p := p) (v := v) (sf := self) (dim := j.v.dim) (mp := mp) (md := md) (j := ⟨lockS j.v n.txn n.after (n.ops.map OV.abs), putL j.parts n.txn n.parts, j.done⟩) (ps := putL ps n.txn ⟨a5, c5, n.parts⟩) ((hq.mono hl2).put hs2 rfl) hdim) ?_
      repeat (first | exact Ent.refl _ | exact Ent.nil | refine Ent.pick ?_ | refine Ent.nilS ?_ | refine Ent.nilM ?_ | refine Ent.drop ?_)
    · have hS : appS j n.abs = j := by unfold appS; rw [hE, if_pos hz]
      have hS2 : lockS j.v n.txn n.after (n.ops.map OV.abs) = j.v := by unfold lockS; rw [if_neg hz]
      rw [hS, hS2]
      refine Q.r ?_; (repeat (intro b1; refine Q.r ?_))
      refine Q.rd ?_; (repeat (intro b1; refine Q.rd ?_))
      refine Q.r ?_; (repeat (intro b1; refine Q.r ?_))
      refine N.r1 (RV.tmp rfl RV.nil) ?_ ⟨M, rfl, leM.refl M, rfl⟩
      refine Ent.trans (jclose (p := p) (v := v) (sf := self) (dim := j.v.dim) (mp := mp) (md := md) (j := j) (ps := ps) hq rfl) ?_
      repeat (first | exact Ent.refl _ | exact Ent.nil | refine Ent.pick ?_ | refine Ent.nilS ?_ | refine Ent.nilM ?_ | refine Ent.drop ?_)
  by_cases h13 : n.kind = 13
  · have hE : appE j n.abs = applyE j.v n.txn n.stamp := by
      unfold appE; rw [hr, if_neg (by decide), if_neg (show ¬ n.abs.kind = 12 from h12), if_pos (show n.abs.kind = 13 from h13)]
    refine Q.r ?_; (repeat (intro b1; refine Q.r ?_))
    refine swp_jur p (fun v mp md self ps hq => ?_)
    refine Q.dgo [true, false, false, false, true] [8] [] [0, 1, 2, 3, 4, 5, 6, 7, 8, 9] ?_
    refine Q.rd ?_; (repeat (intro b1; refine Q.rd ?_))
    refine D.e rfl rfl rfl ?_
    refine S.cv v rfl (Apply_spec v j.v k n.txn n.stamp _ hw.wf hk h0.stamp) ?_
    rintro _ _ ⟨rfl, rfl⟩
    rw [hE]
    by_cases hz : applyE j.v n.txn n.stamp = 0
    · have hS : appS j n.abs = ⟨applyS j.v n.txn n.stamp, delL j.parts n.txn, putL j.done n.txn n.stamp⟩ := by
        unfold appS; rw [hE, hz, if_neg (by decide), if_neg (show ¬ n.abs.kind = 12 from h12), if_pos (show n.abs.kind = 13 from h13)]
      have hdim : j.v.dim = (applyS j.v n.txn n.stamp).dim := by
        unfold applyS
        split
        · rfl
        · split <;> rfl
      rw [hS, hz]
      refine Q.r ?_; (repeat (intro b1; refine Q.r ?_))
      refine Q.rd ?_; (repeat (intro b1; refine Q.rd ?_))
      refine Q.r ?_; (repeat (intro b1; refine Q.r ?_))
      refine Q.dgo [true, true] [8] [] [0, 1, 2, 3, 4, 5, 6, 7, 8] ?_
      refine Q.rd ?_; (repeat (intro b1; refine Q.rd ?_))
      refine D.e rfl rfl rfl ?_
      refine S.mu (r := U64) (u := n.stamp) rfl rfl rfl ?_
      refine Q.r ?_; (repeat (intro b1; refine Q.r ?_))
      refine Q.rd ?_; (repeat (intro b1; refine Q.rd ?_))
      refine Q.r ?_; (repeat (intro b1; refine Q.r ?_))
      refine Q.dgo [true, true] [6] [] [0, 1, 2, 3, 4, 5, 6] ?_
      refine Q.rd ?_; (repeat (intro b1; refine Q.rd ?_))
      refine D.e rfl rfl rfl ?_
      refine S.dl rfl rfl ?_
      refine Q.r ?_; (repeat (intro b1; refine Q.r ?_))
      refine Q.rd ?_; (repeat (intro b1; refine Q.rd ?_))
      refine Q.r ?_; (repeat (intro b1; refine Q.r ?_))
      refine N.r1 (RV.tmp rfl RV.nil) ?_ ⟨M, rfl, leM.refl M, rfl⟩
      refine Ent.trans (jclose (p := p) (v := v) (sf := self) (dim := j.v.dim) (mp := mp) (md := md) (j := ⟨applyS j.v n.txn n.stamp, delL j.parts n.txn, putL j.done n.txn n.stamp⟩) (ps := delL ps n.txn) (hq.del rfl) hdim) ?_
      repeat (first | exact Ent.refl _ | exact Ent.nil | refine Ent.pick ?_ | refine Ent.nilS ?_ | refine Ent.nilM ?_ | refine Ent.drop ?_)
    · have hS : appS j n.abs = j := by unfold appS; rw [hE, if_pos hz]
      rw [hS, applyS_ne hz]
      refine Q.r ?_; (repeat (intro b1; refine Q.r ?_))
      refine Q.rd ?_; (repeat (intro b1; refine Q.rd ?_))
      refine Q.r ?_; (repeat (intro b1; refine Q.r ?_))
      refine N.r1 (RV.tmp rfl RV.nil) ?_ ⟨M, rfl, leM.refl M, rfl⟩
      refine Ent.trans (jclose (p := p) (v := v) (sf := self) (dim := j.v.dim) (mp := mp) (md := md) (j := j) (ps := ps) hq rfl) ?_
      repeat (first | exact Ent.refl _ | exact Ent.nil | refine Ent.pick ?_ | refine Ent.nilS ?_ | refine Ent.nilM ?_ | refine Ent.drop ?_)
  by_cases h14 : n.kind = 14
  · have hE : appE j n.abs = if (lkL j.v.its n.txn).isSome then 0 else 6 := by
      unfold appE; rw [hr, if_neg (by decide), if_neg (show ¬ n.abs.kind = 12 from h12), if_neg (show ¬ n.abs.kind = 13 from h13), if_pos (show n.abs.kind = 14 from h14)]
    refine Q.r ?_; (repeat (intro b1; refine Q.r ?_))
    refine swp_jur p (fun v mp md self ps hq => ?_)
    refine Q.dgo [true, false, false, false, true] [6] [] [0, 1, 2, 3, 4, 5, 6, 7] ?_
    refine Q.rd ?_; (repeat (intro b1; refine Q.rd ?_))
    refine D.e rfl rfl rfl ?_
    refine S.cv v rfl (Free_spec v j.v n.txn _) ?_
    rintro _ _ ⟨rfl, rfl⟩
    rw [hE]
    cases hz : (lkL j.v.its n.txn).isSome with
    | true =>
      rw [hz] at hE
      have hS : appS j n.abs = ⟨{ j.v with its := delL j.v.its n.txn }, delL j.parts n.txn, j.done⟩ := by
        unfold appS; rw [hE, if_pos rfl, if_neg (by decide), if_neg (show ¬ n.abs.kind = 12 from h12), if_neg (show ¬ n.abs.kind = 13 from h13), if_pos (show n.abs.kind = 14 from h14)]
      rw [hS, if_pos rfl]
      refine Q.r ?_; (repeat (intro b1; refine Q.r ?_))
      refine Q.rd ?_; (repeat (intro b1; refine Q.rd ?_))
      refine Q.r ?_; (repeat (intro b1; refine Q.r ?_))
      refine Q.dgo [true, true] [6] [] [0, 1, 2, 3, 4, 5, 6] ?_
      refine Q.rd ?_; (repeat (intro b1; refine Q.rd ?_))
      refine D.e rfl rfl rfl ?_
      refine S.dl rfl rfl ?_
      refine Q.r ?_; (repeat (intro b1; refine Q.r ?_))
      refine Q.rd ?_; (repeat (intro b1; refine Q.rd ?_))
      refine Q.r ?_; (repeat (intro b1; refine Q.r ?_))
      refine N.r1 (RV.tmp rfl RV.nil) ?_ ⟨M, rfl, leM.refl M, rfl⟩
      refine Ent.trans (jclose (p := p) (v := v) (sf := self) (dim := j.v.dim) (mp := mp) (md := md) (j := ⟨{ j.v with its := delL j.v.its n.txn }, delL j.parts n.txn, j.done⟩) (ps := delL ps n.txn) (hq.del rfl) rfl) ?_
      repeat (first | exact Ent.refl _ | exact Ent.nil | refine Ent.pick ?_ | refine Ent.nilS ?_ | refine Ent.nilM ?_ | refine Ent.drop ?_)
    | false =>
      rw [hz] at hE
      have hS : appS j n.abs = j := by unfold appS; rw [hE, if_pos (by decide)]
      have hz2 : lkL j.v.its n.txn = none := isSome_ne (by rw [hz]; decide)
      have hS2 : ({ j.v with its := delL j.v.its n.txn } : VS) = j.v := by rw [delL_none (lk_none' hz2)]
      rw [hS, hS2, if_neg (by decide)]
      refine Q.r ?_; (repeat (intro b1; refine Q.r ?_))
      refine Q.rd ?_; (repeat (intro b1; refine Q.rd ?_))
      refine Q.r ?_; (repeat (intro b1; refine Q.r ?_))
      refine N.r1 (RV.tmp rfl RV.nil) ?_ ⟨M, rfl, leM.refl M, rfl⟩
      refine Ent.trans (jclose (p := p) (v := v) (sf := self) (dim := j.v.dim) (mp := mp) (md := md) (j := j) (ps := ps) hq rfl) ?_
      repeat (first | exact Ent.refl _ | exact Ent.nil | refine Ent.pick ?_ | refine Ent.nilS ?_ | refine Ent.nilM ?_ | refine Ent.drop ?_)
  by_cases h15 : n.kind = 15
  · have hE : appE j n.abs = 0 := by
      unfold appE; rw [hr, if_neg (by decide), if_neg (show ¬ n.abs.kind = 12 from h12), if_neg (show ¬ n.abs.kind = 13 from h13), if_neg (show ¬ n.abs.kind = 14 from h14), if_pos (show n.abs.kind = 15 from h15)]
    have hS : appS j n.abs = ⟨sweepS j.v n.mark, j.parts, j.done⟩ := by
      unfold appS; rw [hE, if_neg (by decide), if_neg (show ¬ n.abs.kind = 12 from h12), if_neg (show ¬ n.abs.kind = 13 from h13), if_neg (show ¬ n.abs.kind = 14 from h14), if_pos (show n.abs.kind = 15 from h15)]
    have hdim : j.v.dim = (sweepS j.v n.mark).dim := by unfold sweepS; split <;> rfl
    rw [hE, hS]
    refine Q.r ?_; (repeat (intro b1; refine Q.r ?_))
    refine swp_jur p (fun v mp md self ps hq => ?_)
    refine Q.dgo [true, false, false, false, true] [6] [] [0, 1, 2, 3, 4, 5, 6] ?_
    refine Q.rd ?_; (repeat (intro b1; refine Q.rd ?_))
    refine D.e rfl rfl rfl ?_
    refine S.cv v rfl (Sweep_spec v j.v k n.mark _ hw.wf hk) ?_
    rintro _ _ ⟨a5, c5, rfl, _, rfl⟩
    refine Q.r ?_; (repeat (intro b1; refine Q.r ?_))
    refine Q.rd ?_; (repeat (intro b1; refine Q.rd ?_))
    refine Q.r ?_; (repeat (intro b1; refine Q.r ?_))
    refine N.r1 (RV.tmp rfl RV.nil) ?_ ⟨M, rfl, leM.refl M, rfl⟩
    refine Ent.trans (jclose (p := p) (v := v) (sf := self) (dim := j.v.dim) (mp := mp) (md := md) (j := ⟨sweepS j.v n.mark, j.parts, j.done⟩) (ps := ps) (hq.same rfl) hdim) ?_
    repeat (first | exact Ent.refl _ | exact Ent.nil | refine Ent.pick ?_ | refine Ent.nilS ?_ | refine Ent.nilM ?_ | refine Ent.drop ?_)
  · have hE : appE j n.abs = 4 := by
      unfold appE; rw [hr, if_neg (by decide), if_neg (show ¬ n.abs.kind = 12 from h12), if_neg (show ¬ n.abs.kind = 13 from h13), if_neg (show ¬ n.abs.kind = 14 from h14), if_neg (show ¬ n.abs.kind = 15 from h15)]
    have hS : appS j n.abs = j := by unfold appS; rw [hE]; rfl
    rw [hE, hS]
    refine Q.r ?_; (repeat (intro b1; refine Q.r ?_))
    exact N.r1 (RV.tmp rfl RV.nil) (by repeat (first | exact Ent.refl _ | exact Ent.nil | refine Ent.pick ?_ | refine Ent.nilS ?_ | refine Ent.nilM ?_ | refine Ent.drop ?_)) ⟨M, rfl, leM.refl M, rfl⟩
end Go.Proofs.YtjidejcehmamkaaDoor
/- The juror: New; the law's example. No condition. -/
namespace Go.Proofs.YtjidejcehmamkaaDoor
open Go Go.SX
attribute [local irreducible] swp opsS thenS blockS retS CallsS St Ent YieldS anyS drawS
abbrev J0 (dim : Int) : JS := ⟨⟨dim, [], [], 0⟩, [], []⟩
theorem J0.ok {dim : Int} (h1 : 1 ≤ dim) (h2 : dim ≤ 8) : JOK (J0 dim) 0 :=
  ⟨⟨⟨h1, h2, Nat.le_refl _, (fun i hi => by cases hi), Nat.le_refl _, (fun c hc => by cases hc)⟩, by simp [keysOK], by simp [keysOK]⟩, by simp [keysOK], by simp [keysOK], (fun t s h => by cases h), (fun t s h => by cases h), Int.le_refl _, (fun c hc => by cases hc)⟩
theorem JNew_spec (M : Nat → Option Obj) (sf dim : Int) (L : List HP) (s1 : 1 ≤ sf) (s2 : sf ≤ 15) (h1 : 1 ≤ dim) (h2 : dim ≤ 8) :
    CallsS Tryd.prog 5 [.int .i64 sf, .int .i64 dim] L (fun r L' => ∃ p, r = .tuple #[ptrJ p, .int .i64 0] ∧ L' = jurH M p (J0 dim) :: L) := by
  refine CallsS.of_body Tryd.func5 rfl rfl rfl ?_
  refine Q.r ?_; (repeat (intro b1; refine Q.r ?_))
  refine S.cr rfl (New_spec dim _ h1 h2) ?_
  rintro _ _ ⟨v, rfl, rfl⟩
  refine Q.r ?_; (repeat (intro b1; refine Q.r ?_))
  refine S.mkm U64 PV.val (fun mp => ?_)
  refine Q.r ?_; (repeat (intro b1; refine Q.r ?_))
  refine S.mkm U64 U64 (fun md => ?_)
  refine Q.r ?_; (repeat (intro b1; refine Q.r ?_))
  refine N.r2 (RV.tmp rfl (RV.tmp rfl RV.nil)) ?_ ⟨b1, rfl, rfl⟩
  refine Ent.trans (jclose (p := b1) (v := v) (sf := sf) (dim := dim) (mp := mp) (md := md) (M := M) (j := J0 dim) (ps := []) ⟨s1, s2, rfl, (fun u hu => by cases hu)⟩ rfl) ?_
  repeat (first | exact Ent.refl _ | exact Ent.nil | refine Ent.pick ?_ | refine Ent.nilS ?_ | refine Ent.nilM ?_ | refine Ent.drop ?_)
theorem one_spec (L : List HP) : CallsS Tryd.prog 10 [] L (fun r L' => ∃ b b', r = .slice (some ⟨b, 0, none⟩) 1 1 ∧ L' = slO 73 2 (some ⟨b, 0, none⟩) 1 1 (OV.cells ⟨1, some ⟨b', 0, none⟩, 1, [5]⟩) :: slO 21 1 (some ⟨b', 0, none⟩) 1 1 [I32 5] :: L) := by
  refine CallsS.of_body Tryd.func10 rfl rfl rfl ?_
  refine Q.r ?_; (repeat (intro b1; refine Q.r ?_))
  rename_i b0
  refine N.r1 (RV.tmp rfl RV.nil) ?_ ⟨b1, b0, rfl, rfl⟩
  refine Ent.trans ?_ (slO_fold rfl)
  refine Ent.trans ?_ (Ent.cons (slO_fold rfl))
  repeat (first | exact Ent.refl _ | exact Ent.nil | refine Ent.pick ?_ | refine Ent.nilS ?_ | refine Ent.nilM ?_ | refine Ent.drop ?_)
theorem _root_.Go.SX.CM.tail {M : Nat → Option Obj} {b o : Nat} {v : Value} {cs : List Value} (h : CM M b o (v :: cs)) : CM M b (o + 1) cs := fun j u e => by
  have := h (j + 1) u (by simpa using e)
  rw [Nat.add_assoc, Nat.add_comm 1 j]; exact this
section
variable {n : Nat} {ops rest : List Oper} {cd : Code} {Q : Post} {f : Env} {L L0 : List HP} {M : Nat → Option Obj} {j : JS}
theorem opsS_jm (p : Nat) [hp : PickJ p L M j L0] {M' : Nat → Option Obj} (hl : leM M M') (hk : opsS Tryd.prog n ops rest Q f (jurH M' p j :: L0)) : opsS Tryd.prog n ops rest Q f L := opsS_ent (hp.ent.trans (jur_mono hl)) hk
theorem swp_jm (p : Nat) [hp : PickJ p L M j L0] {M' : Nat → Option Obj} (hl : leM M M') (hk : swp Tryd.prog n cd Q f (jurH M' p j :: L0)) : swp Tryd.prog n cd Q f L := swp_ent (hp.ent.trans (jur_mono hl)) hk
end
abbrev oneO (b' : Nat) : OV := ⟨1, some ⟨b', 0, none⟩, 1, [5]⟩
abbrev exN (b b' : Nat) : NV := ⟨3, 7, 0, 0, 0, 0, 0, 0, 0, 0, 0, 0, none, 0, [], some ⟨b, 0, none⟩, 1, [oneO b'], none, 0, [], none, 0, []⟩
abbrev exA : NA := { NA.zero with kind := 3, txn := 7, ops := [(1, [5])] }
abbrev J1 : JS := ⟨⟨1, [], [(7, 0, [(1, [5])])], 0⟩, [(7, [])], []⟩
abbrev J2 : JS := ⟨⟨1, [(1, [(5, [5])])], [], 0⟩, [], [(7, 5)]⟩
theorem ex1 : planV (J0 1) 0 exA = ⟨[{ exA with kind := 12 }], [voteN 7 0], [voteN 7 8]⟩ := by kernel_rfl
theorem ex2 : appS (J0 1) { exA with kind := 12 } = J1 := by kernel_rfl
theorem ex3 : planV J1 0 { NA.zero with kind := 5, txn := 7, stamp := 5 } = ⟨[comN 7 5], [ackN 7], []⟩ := by kernel_rfl
theorem ex4 : appS J1 (comN 7 5) = J2 := by kernel_rfl
theorem ex5 : planV J2 2 { NA.zero with kind := 7, txn := 7 } = ⟨[], [(2, { NA.zero with kind := 5, txn := 7, stamp := 5 })], []⟩ := by kernel_rfl
theorem ex6 : appE (J0 1) { exA with kind := 12 } = 0 := by kernel_rfl
theorem ex7 : appE J1 (comN 7 5) = 0 := by kernel_rfl
theorem J1.ok : JOK J1 1 := by
  have h := plan_cases (J0.ok (dim := 1) (by decide) (by decide)) (n := exA) (by decide) 0
  rw [ex1] at h
  rcases h with h | h | h | h
  · cases h
  · have := h.2.1.ok
    rw [ex2] at this; exact this
  · simp at h
  · simp at h
theorem J2.ok : JOK J2 2 := by
  have h := plan_cases J1.ok (n := { NA.zero with kind := 5, txn := 7, stamp := 5 }) (by decide) 0
  rw [ex3] at h
  rcases h with h | h | h | h
  · cases h
  · simp at h
  · have := h.2.2.1.ok
    rw [ex4] at this; exact this
  · simp at h
set_option maxHeartbeats 2000000 in
theorem awake14_spec (M : Nat → Option Obj) (L : List HP) (hT : TabM M) : CallsS Tryd.prog 4 [] (roM M :: L) (fun r L' => ∃ M', r = .bool true ∧ leM M M' ∧ L' = roM M' :: L) := by
  refine CallsS.of_body Tryd.func4 rfl rfl rfl ?_
  refine Q.r ?_; (repeat (intro b1; refine Q.r ?_))
  refine S.cr rfl (JNew_spec M 1 1 _ (by decide) (by decide) (by decide) (by decide)) ?_
  rintro _ _ ⟨p, rfl, rfl⟩
  refine Q.r ?_; (repeat (intro b1; refine Q.r ?_))
  refine S.cr rfl (one_spec _) ?_
  rintro _ _ ⟨b, b', rfl, rfl⟩
  refine opsS_abs (some ⟨b, 0, none⟩) (fun M1 hl1 hs1 => ?_)
  refine opsS_abs (some ⟨b', 0, none⟩) (fun M2 hl2 hs2 => ?_)
  refine opsS_jm p (hl1.trans hl2) ?_
  have hn : okN M2 (exN b b') := ⟨SlM.nil0, ⟨hs1.mono hl2, (fun o ho => by obtain rfl := List.mem_singleton.1 ho; exact hs2)⟩, SlM.nil0, SlM.nil0, (fun o ho => by cases ho)⟩
  have hN : OkN (exN b b') := ⟨Nat.zero_le _, by show 1 ≤ 1000000; omega, (fun o ho => by obtain rfl := List.mem_singleton.1 ho; show 1 ≤ 1000000; omega), Nat.zero_le _, Nat.zero_le _, (fun o ho => by cases ho)⟩
  refine Q.r ?_; (repeat (intro b1; refine Q.r ?_))
  refine S.cj p (args := [ptrJ p, .int .i64 0, (exN b b').val]) rfl (Plan_spec (exN b b') M2 p (J0 1) 0 0 _ (J0.ok (by decide) (by decide)).w (by decide) (fun c hc => by cases hc) hn hN (hT.mono (hl1.trans hl2)) ⟨by show (0 : Int) ≤ 3; decide, by show (3 : Int) ≤ 255; decide⟩) ?_
  rintro _ _ ⟨ra, rc, ma, mc, ea, ec, M3, rfl, hl3, rfl⟩
  rw [show planV (J0 1) 0 (exN b b').abs = _ from ex1]
  simp only [List.length_cons, List.length_nil, Nat.zero_add]
  refine opsS_abs ra (fun M4 hl4 hs4 => ?_)
  refine opsS_abs ma (fun M5 hl5 hs5 => ?_)
  refine opsS_jm p (hl4.trans hl5) ?_
  obtain ⟨br, or, rfl, cr4⟩ := SlM.cm (g := fun r => (liftN (exN b b') r).cells) (k := 0) (x := { exA with kind := 12 }) (fun _ => rfl) hs4 rfl rfl
  obtain ⟨bm, om, rfl, cm⟩ := SlM.cm (g := mailC) (k := 0) (fun _ => rfl) hs5 rfl rfl
  have cr := cr4.mono hl5
  rw [show liftN (exN b b') { exA with kind := 12 } = { exN b b' with kind := 12 } from rfl] at cr
  have cm1 := cm.tail
  clear hs4 hs5 cr4
  refine Q.r ?_; (repeat (intro b1; refine Q.r ?_))
  have hn1 : okN M5 { exN b b' with kind := 12 } := by
    have h := hn.mono (hl3.trans (hl4.trans hl5))
    exact ⟨h.p, h.o, h.v, h.h, h.hv⟩
  have hN1 : OkN { exN b b' with kind := 12 } := ⟨hN.p, hN.o, hN.ov, hN.v, hN.h, hN.hv⟩
  refine S.cj p rfl (Apply_spec' { exN b b' with kind := 12 } M5 p (J0 1) 0 _ (J0.ok (by decide) (by decide)).w (by decide) hn1 hN1 (hT.mono (hl1.trans (hl2.trans (hl3.trans (hl4.trans hl5))))) ⟨by show (0 : Int) ≤ 12 ∧ (12 : Int) ≤ 255; decide, by show (0 : Int) ≤ 7; decide, Int.le_refl _, Int.le_refl _, Int.le_refl _⟩) ?_
  rintro _ _ ⟨M6, rfl, hl6, rfl⟩
  rw [show appE (J0 1) (NV.abs { exN b b' with kind := 12 }) = 0 from ex6, show appS (J0 1) (NV.abs { exN b b' with kind := 12 }) = J1 from ex2]
  have hT6 : TabM M6 := hT.mono (hl1.trans (hl2.trans (hl3.trans (hl4.trans (hl5.trans hl6)))))
  have hlM6 : leM M M6 := hl1.trans (hl2.trans (hl3.trans (hl4.trans (hl5.trans hl6))))
  clear hs1 hs2 hn hN hn1 hN1 hl1 hl2 hl3 hl4 hl5 hl6
  refine Q.r ?_; (repeat (intro b1; refine Q.r ?_))
  refine S.cj p (args := [ptrJ p, .int .i64 0, (NA.nv { NA.zero with kind := 5, txn := 7, stamp := 5 }).val]) rfl (Plan_spec (NA.nv { NA.zero with kind := 5, txn := 7, stamp := 5 }) M6 p J1 1 0 _ J1.ok.w (by decide) J1.ok.ne (okN.nv _) (OkN.nv _) hT6 ⟨by show (0 : Int) ≤ 5; decide, by show (5 : Int) ≤ 255; decide⟩) ?_
  rintro _ _ ⟨ra, rc, ma, mc, ea, ec, M7, rfl, hl7, rfl⟩
  rw [show planV J1 0 (NA.nv { NA.zero with kind := 5, txn := 7, stamp := 5 }).abs = _ from ex3]
  simp only [List.length_cons, List.length_nil, Nat.zero_add]
  refine opsS_abs ra (fun M8 hl8 hs8 => ?_)
  refine opsS_jm p hl8 ?_
  obtain ⟨br2, or2, rfl, cr⟩ := SlM.cm (g := fun r => (liftN (NA.nv { NA.zero with kind := 5, txn := 7, stamp := 5 }) r).cells) (k := 0) (x := comN 7 5) (fun _ => rfl) hs8 rfl rfl
  rw [show liftN (NA.nv { NA.zero with kind := 5, txn := 7, stamp := 5 }) (comN 7 5) = NA.nv (comN 7 5) from rfl] at cr
  clear hs8
  refine Q.r ?_; (repeat (intro b1; refine Q.r ?_))
  refine S.cj p rfl (Apply_spec' (NA.nv (comN 7 5)) M8 p J1 1 _ J1.ok.w (by decide) (okN.nv _) (OkN.nv _) (hT6.mono (hl7.trans hl8)) ⟨by show (0 : Int) ≤ 13 ∧ (13 : Int) ≤ 255; decide, by show (0 : Int) ≤ 7; decide, by show (0 : Int) ≤ 5; decide, Int.le_refl _, Int.le_refl _⟩) ?_
  rintro _ _ ⟨M9, rfl, hl9, rfl⟩
  rw [show appE J1 (NA.nv (comN 7 5)).abs = 0 from ex7, show appS J1 (NA.nv (comN 7 5)).abs = J2 from ex4]
  have hlM9 : leM M M9 := hlM6.trans (hl7.trans (hl8.trans hl9))
  refine Q.r ?_; (repeat (intro b1; refine Q.r ?_))
  refine S.cj p (args := [ptrJ p, .int .i64 2, (NA.nv { NA.zero with kind := 7, txn := 7 }).val]) rfl (Plan_spec (NA.nv { NA.zero with kind := 7, txn := 7 }) M9 p J2 2 2 _ J2.ok.w (by decide) J2.ok.ne (okN.nv _) (OkN.nv _) (hT.mono hlM9) ⟨by show (0 : Int) ≤ 7; decide, by show (7 : Int) ≤ 255; decide⟩) ?_
  rintro _ _ ⟨ra, rc, ma, mc, ea, ec, M10, rfl, hl10, rfl⟩
  rw [show planV J2 2 (NA.nv { NA.zero with kind := 7, txn := 7 }).abs = _ from ex5]
  simp only [List.length_cons, List.length_nil, Nat.zero_add]
  refine opsS_abs ma (fun M11 hl11 hs11 => ?_)
  obtain ⟨bm3, om3, rfl, cm3⟩ := SlM.cm (g := mailC) (k := 0) (fun _ => rfl) hs11 rfl rfl
  have cm4 := cm3.tail
  clear hs11
  refine Q.r ?_; (repeat (intro b1; refine Q.r ?_))
  exact N.r1 (RV.tmp rfl RV.nil) (by repeat (first | exact Ent.refl _ | exact Ent.nil | refine Ent.pick ?_ | refine Ent.nilS ?_ | refine Ent.nilM ?_ | refine Ent.drop ?_)) ⟨M11, rfl, hlM9.trans (hl10.trans hl11), rfl⟩
end Go.Proofs.YtjidejcehmamkaaDoor
/- The document's note, cut: Hits, Few. No condition. -/
namespace Go.Proofs.YtjidejcehmamkaaDoor
open Go Go.SX
attribute [local irreducible] swp opsS thenS blockS retS CallsS St Ent YieldS anyS drawS
abbrev HV.ov (h : HV) : OV := ⟨h.id, h.a, h.c, h.vec⟩
def fewH (k : Nat) (l : List (Int × Int × List Int)) : List (Int × Int × List Int) := (l.take k).map fun h => (h.1, h.2.1, h.2.2.take 8)
theorem fewH_all {n : Nat} {l : List (Int × Int × List Int)} (h : l.length ≤ n) : fewH n l = l.map fun h => (h.1, h.2.1, h.2.2.take 8) := by unfold fewH; rw [List.take_of_length_le h]
set_option maxHeartbeats 1000000 in
theorem HitsA_spec (n : Nat) (a : Option Addr) (c : Nat) (ops : List HV) (A : List HP) (h : RdS A a ops.length 3 (ops.flatMap HV.cells)) (hv : ∀ o ∈ ops, RdS A o.a o.vec.length 1 (o.vec.map I32)) (hc : ∀ o ∈ ops, o.vec.length ≤ o.c) (hn : ops.length ≤ 9223372036854775807) (hnn : n ≤ 1000000) :
    CallsS Tryd.prog 13 [.slice a ops.length c, .int .i64 n] A (fun v L' => ∃ (a' : Option Addr) (c' : Nat) (us : List HV), us.map HV.abs = fewH n (ops.map HV.abs) ∧ (∀ o ∈ us, o.vec.length = 0 ∨ ∃ b, o.a = some ⟨b, 0, none⟩) ∧ v = .slice a' us.length c' ∧ L' = slO 79 3 a' us.length c' (us.flatMap HV.cells) :: vecsH (us.map HV.ov) :: A) := by
  refine CallsS.of_body Tryd.func13 rfl rfl rfl ?_
  refine Q.r ?_; (repeat (intro b1; refine Q.r ?_))
  refine swp_loop (σ := Nat × Option Addr × Nat × List HV) (fun s => [(1, .int .i64 n), (8, .slice a ops.length c), (9, .int .i64 ops.length), (5, .slice s.2.1 s.2.2.2.length s.2.2.1), (10, .int .i64 s.1)])
    (fun s => slO 79 3 s.2.1 s.2.2.2.length s.2.2.1 (s.2.2.2.flatMap HV.cells) :: vecsH (s.2.2.2.map HV.ov) :: A)
    (fun s => s.1 ≤ ops.length ∧ s.2.2.2.map HV.abs = fewH n ((ops.take s.1).map HV.abs) ∧ ∀ o ∈ s.2.2.2, o.vec.length = 0 ∨ ∃ b, o.a = some ⟨b, 0, none⟩) (fun s => ops.length - s.1) (0, none, 0, []) ⟨rfl, rfl, rfl, rfl, rfl, trivial⟩ ?_ ⟨by omega, by simp [fewH], by simp⟩ ?_
  · exact Ent.trans (Ent.trans bodV_nil slO_nil) (Ent.refl _)
  rintro ⟨k, a3, c3, us⟩ ⟨hk, hus, hua⟩
  dsimp only at hk hus hua ⊢
  have hul : us.length = min n k := by
    have := congrArg List.length hus
    simp [fewH] at this; omega
  by_cases hlt : k < ops.length
  · obtain ⟨o, ho⟩ := mem_get hlt
    have hmo : o ∈ ops := List.mem_of_getElem? ho
    obtain ⟨b, oo, hia, hr⟩ := RdS.elem (g := HV.cells) (fun _ => rfl) h ho rfl
    rw [hia]
    repeat (first | (refine GQ.y ?_; refine Q.y ?_) | refine Q.go ?_ | (refine GQ.g ?_; refine Q.gq ?_) | (refine GQ.s ?_; refine Q.st ?_) | (refine GQ.a ?_; refine Q.al (fun b1 => ?_)))
    by_cases hkn : k < n
    · refine Q.r ?_; (repeat (intro b1; refine Q.r ?_))
      refine Q.dgo [true, false, false] [7, 9, 10] [] [0, 1, 2, 3, 4, 5, 6, 7, 8, 9, 10, 11] ?_
      refine Q.rd ?_; (repeat (intro b1; refine Q.rd ?_))
      refine D.e rfl rfl rfl ?_
      refine S.cr rfl (CutVec_spec o.a o.c 8 o.vec _ ((hv o hmo).sub) (hc o hmo) (by omega)) ?_
      rintro _ _ ⟨a', c', rfl, rfl⟩
      refine opsS_addr a' (fun ha' => ?_)
      refine Q.r ?_; (repeat (intro b1; refine Q.r ?_))
      refine Q.rd ?_; (repeat (intro b1; refine Q.rd ?_))
      refine D.e rfl rfl rfl ?_
      refine S.app rfl rfl (SrcS.sl RdC.row (by rfl) (by rfl)) (by rfl) (by omega) (by omega) (fun a4 c4 => ?_)
      refine Q.r ?_; (repeat (intro b1; refine Q.r ?_))
      refine Q.rd ?_; (repeat (intro b1; refine Q.rd ?_))
      refine Q.r ?_; (repeat (intro b1; refine Q.r ?_))
      refine ⟨(k + 1, a4, c4, us ++ [⟨o.id, o.dist, a', c', o.vec.take 8⟩]), ⟨rfl, rfl, rfl, congrArg some (by simp), rfl, trivial⟩, ?_, ⟨by dsimp only; omega, ?_, ?_⟩, by dsimp only; omega⟩
      · dsimp only
        rw [len_snoc, flat_snoc, List.map_append]
        refine Ent.pick (Ent.trans ?_ (vecs_snoc (o := ⟨o.id, a', c', o.vec.take 8⟩) rfl))
        repeat (first | exact Ent.refl _ | exact Ent.nil | refine Ent.pick ?_ | refine Ent.nilS ?_ | refine Ent.nilM ?_ | refine Ent.drop ?_)
      · dsimp only
        rw [List.map_append, hus, fewH_all (l := (ops.take k).map HV.abs) (by simp; omega), fewH_all (l := (ops.take (k + 1)).map HV.abs) (by simp; omega), take_snoc ho, List.map_append, List.map_append]; rfl
      · intro u hu
        rcases List.mem_append.1 hu with hu | hu
        · exact hua u hu
        · obtain rfl := List.mem_singleton.1 hu
          exact ha'
    · refine Q.r ?_; (repeat (intro b1; refine Q.r ?_))
      refine ⟨(k + 1, a3, c3, us), ⟨rfl, rfl, rfl, rfl, rfl, trivial⟩, by repeat (first | exact Ent.refl _ | exact Ent.nil | refine Ent.pick ?_ | refine Ent.nilS ?_ | refine Ent.nilM ?_ | refine Ent.drop ?_), ⟨by dsimp only; omega, ?_, hua⟩, by dsimp only; omega⟩
      dsimp only
      rw [hus]
      unfold fewH
      rw [← List.map_take, ← List.map_take, List.take_take, List.take_take, show min n k = min n (k + 1) by omega]
  · have hke : k = ops.length := by omega
    subst hke
    rw [List.take_length] at hus
    refine Q.r ?_; (repeat (intro b1; refine Q.r ?_))
    exact N.r1 (RV.tmp rfl RV.nil) (by repeat (first | exact Ent.refl _ | exact Ent.nil | refine Ent.pick ?_ | refine Ent.nilS ?_ | refine Ent.nilM ?_ | refine Ent.drop ?_)) ⟨a3, c3, us, hus, hua, rfl, rfl⟩
theorem opsS_absC (us : List OV) {n : Nat} {ops rest : List Oper} {Q : Post} {f : Env} {L L0 L1 : List HP} {M : Nat → Option Obj} [h : Pick (vecsH us) L L0] [h1 : PickM L0 M L1] (hk : ∀ M', leM M M' → okR M' us → (∀ o ∈ us, o.vec.length ≤ o.c) → opsS Tryd.prog n ops rest Q f (roM M' :: L1)) : opsS Tryd.prog n ops rest Q f L :=
  opsS_ent (h.ent.trans (vecs_abs2 us)) (opsS_ex fun M' => opsS_all (opsS_pure fun hh => hk M' hh.1 hh.2.1 hh.2.2))
def NA.few (n : NA) : NA := { n with parts := n.parts.take 6, ops := fewV 18 n.ops, vec := n.vec.take 10, hits := fewH 18 n.hits }
structure CapN (n : NV) : Prop where
  p : n.parts.length ≤ n.pc
  ov : ∀ o ∈ n.ops, o.vec.length ≤ o.c
  v : n.vec.length ≤ n.vc
  hv : ∀ h ∈ n.hits, h.vec.length ≤ h.c
  p2 : n.parts.length ≤ 9223372036854775807
  o2 : n.ops.length ≤ 9223372036854775807
  v2 : n.vec.length ≤ 9223372036854775807
  h2 : n.hits.length ≤ 9223372036854775807
theorem few_OkN {n' : NV} {n : NA} (h : n'.abs = n.few) : OkN n' := by
  have hp : n'.parts = n.parts.take 6 := congrArg NA.parts h
  have ho : n'.ops.map OV.abs = fewV 18 n.ops := congrArg NA.ops h
  have hv : n'.vec = n.vec.take 10 := congrArg NA.vec h
  have hh : n'.hits.map HV.abs = fewH 18 n.hits := congrArg NA.hits h
  refine ⟨by rw [hp, List.length_take]; omega, ?_, fun o ho' => ?_, by rw [hv, List.length_take]; omega, ?_, fun o ho' => ?_⟩
  · have := congrArg List.length ho
    simp [fewV] at this; omega
  · have := List.mem_map_of_mem (f := OV.abs) ho'
    rw [ho] at this
    obtain ⟨u, _, hu⟩ := List.mem_map.1 this
    have := congrArg (fun z : Int × List Int => z.2.length) hu
    simp at this; omega
  · have := congrArg List.length hh
    simp [fewH] at this; omega
  · have := List.mem_map_of_mem (f := HV.abs) ho'
    rw [hh] at this
    obtain ⟨u, _, hu⟩ := List.mem_map.1 this
    have := congrArg (fun z : Int × Int × List Int => z.2.2.length) hu
    simp at this; omega
set_option maxHeartbeats 1000000 in
theorem NFew_spec (n : NV) (M : Nat → Option Obj) (L : List HP) (hn : okN M n) (hc : CapN n) :
    CallsS Tryd.prog 6 [n.val] (roM M :: L) (fun r L' => ∃ (n' : NV) (M' : Nat → Option Obj), r = n'.val ∧ leM M M' ∧ okN M' n' ∧ CapN n' ∧ n'.abs = n.abs.few ∧ L' = roM M' :: L) := by
  have hc1 := hc.p
  have hc2 := hc.p2
  refine CallsS.of_body Tryd.func6 rfl rfl rfl ?_
  have hl : (n.parts.take 6).length = min 6 n.parts.length := List.length_take ..
  refine Q.r ?_; (repeat (intro b1; refine Q.r ?_))
  refine opsS_ent (slO_fold (sz := 1) (m := 0) rfl) ?_
  refine Q.r ?_; (repeat (intro b1; refine Q.r ?_))
  have hrM : SlM M n.pa (n.parts.take 6).length 1 ((n.parts.take 6).map I64) := by
    have := hn.p.take (k := min 6 n.parts.length) (by omega)
    rw [hl]
    rw [Nat.mul_one, ← List.map_take] at this
    rwa [← List.take_eq_take_min] at this
  refine S.y (Y.slT (h := (n.parts.take 6).length) rfl rfl (by rw [hl]; omega) (by omega)) ?_
  refine S.app0 rfl rfl rfl (SrcS.rd hrM.rd (P_one _)) (by rfl) (by omega) (by omega) (fun a5 c5 => ?_)
  refine opsS_cap a5 (fun hc5 => ?_)
  refine opsS_abs a5 (fun M1 hl1 hs1 => ?_)
  refine Q.r ?_; (repeat (intro b1; refine Q.r ?_))
  refine Q.dgo [false, false, true] [2, 5, 8, 10, 12, 14] [10] [0, 1, 3, 4, 6, 7, 2, 9, 5, 8, 10, 11, 12, 13, 14] ?_
  refine Q.rd ?_; (repeat (intro b1; refine Q.rd ?_))
  refine D.e rfl rfl rfl ?_
  refine S.cr rfl (FewA_spec 18 n.oa n.oc n.ops _ (hn.mono hl1).rd.o hc.ov hc.o2 (by omega)) ?_
  rintro _ _ ⟨a6, c6, us, hus, _, rfl, rfl⟩
  refine opsS_abs a6 (fun M2 hl2 hs2 => ?_)
  refine opsS_absC us (fun M3 hl3 hs3 hc3 => ?_)
  refine Q.r ?_; (repeat (intro b1; refine Q.r ?_))
  refine Q.rd ?_; (repeat (intro b1; refine Q.rd ?_))
  refine D.e rfl rfl rfl ?_
  refine S.cr rfl (HitsA_spec 18 n.ha n.hc n.hits _ (hn.mono (hl1.trans (hl2.trans hl3))).rd.h (hn.mono (hl1.trans (hl2.trans hl3))).rd.hv hc.hv hc.h2 (by omega)) ?_
  rintro _ _ ⟨a7, c7, hs, hhs, _, rfl, rfl⟩
  refine opsS_abs a7 (fun M4 hl4 hs4 => ?_)
  refine opsS_absC (hs.map HV.ov) (fun M5 hl5 hs5 hc5' => ?_)
  refine Q.r ?_; (repeat (intro b1; refine Q.r ?_))
  refine Q.rd ?_; (repeat (intro b1; refine Q.rd ?_))
  refine D.e rfl rfl rfl ?_
  refine S.cr rfl (CutVec_spec n.va n.vc 10 n.vec _ (hn.mono (hl1.trans (hl2.trans (hl3.trans (hl4.trans hl5))))).rd.v hc.v (by omega)) ?_
  rintro _ _ ⟨a8, c8, rfl, rfl⟩
  refine opsS_cap a8 (fun hc8 => ?_)
  refine opsS_abs a8 (fun M6 hl6 hs6 => ?_)
  refine Q.r ?_; (repeat (intro b1; refine Q.r ?_))
  refine Q.rd ?_; (repeat (intro b1; refine Q.rd ?_))
  refine Q.dc rfl rfl rfl rfl ?_
  refine Q.r ?_; (repeat (intro b1; refine Q.r ?_))
  refine Q.rd ?_; (repeat (intro b1; refine Q.rd ?_))
  refine Q.r ?_; (repeat (intro b1; refine Q.r ?_))
  have hm6 : leM M M6 := hl1.trans (hl2.trans (hl3.trans (hl4.trans (hl5.trans hl6))))
  refine N.r1 (by apply RV.cellN; rfl; exact RdC.row; rfl; exact RV.nil) ?_ ⟨⟨n.kind, n.txn, n.batch, n.stamp, n.after, n.mark, n.query, n.id, n.k, n.ef, n.code, n.who, a5, c5, n.parts.take 6, a6, c6, us, a8, c8, n.vec.take 10, a7, c7, hs⟩, M6, rfl, hm6, ?_, ?_, ?_, rfl⟩
  · repeat (first | exact Ent.refl _ | exact Ent.nil | refine Ent.pick ?_ | refine Ent.nilS ?_ | refine Ent.nilM ?_ | refine Ent.drop ?_)
  · exact ⟨hs1.mono (hl2.trans (hl3.trans (hl4.trans (hl5.trans hl6)))), ⟨hs2.mono (hl3.trans (hl4.trans (hl5.trans hl6))), fun o ho => (hs3 o ho).mono (hl4.trans (hl5.trans hl6))⟩, hs6, hs4.mono (hl5.trans hl6), fun h hh => (hs5 h.ov (List.mem_map_of_mem (f := HV.ov) hh)).mono hl6⟩
  · have ho := congrArg List.length hus
    have hh := congrArg List.length hhs
    simp [fewV, fewH] at ho hh
    exact ⟨hc5, hc3, hc8, fun h hh => hc5' h.ov (List.mem_map_of_mem (f := HV.ov) hh), by dsimp only; rw [List.length_take]; omega, by dsimp only; omega, by dsimp only; rw [List.length_take]; omega, by dsimp only; omega⟩
  · simp only [NV.abs, NA.few, hus, hhs]
end Go.Proofs.YtjidejcehmamkaaDoor
