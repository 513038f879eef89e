/- slices.Sort's parts at numbers of type uint64, walked: pdqsort. No condition. -/
import Derived.Test.YtjidejcehmamkaaDoorSrtC
import Derived.Test.YtjidejcehmamkaaDoorSrtE
import Derived.Test.YtjidejcehmamkaaDoorSrtF
import Derived.Test.YtjidejcehmamkaaDoorSrtI
import Derived.Test.YtjidejcehmamkaaDoorSeq
import Derived.Sort.AssemblyPlain
set_option linter.unusedVariables false
set_option linter.unusedSimpArgs false
namespace Go.Proofs.YtjidejcehmamkaaDoor
open Go Go.SX
attribute [local irreducible] swp opsS thenS blockS retS CallsS St Ent YieldS anyS drawS
attribute [local irreducible] ar
abbrev lI := Sort.ltInt
theorem below_perm {a b : Nat} {d d' : Array Int} (h : Sort.Below lI a b d) (hb : b ≤ d.size) (hp : Sort.PermIn a b d d') : Sort.Below lI a b d' := Sort.Below.permA Sort.permIn_all hb h hp
set_option maxHeartbeats 20000000 in
theorem pdq_spec (bk n c : Nat) (rs : List Value) (L : List HP) (hn : n ≤ 17592186044416) : ∀ (k a b lim : Nat) (d : Array Int), b - a = k → d.size = n → a ≤ b → b ≤ n → lim ≤ 1000 → Sort.Below lI a b d →
    CallsS Tryd.prog 75 [SV bk n c, .int .i64 a, .int .i64 b, .int .i64 lim] (AR bk d rs :: L) (fun v L' => v = .tuple #[] ∧ ∃ e, L' = AR bk e rs :: L ∧ Sort.PermIn a b d e ∧ Sort.SortedIn lI a b e) := by
  intro k
  induction k using Nat.strongRecOn with
  | _ k ih =>
  intro a b lim d hk hd hab hb hlim hbel
  refine CallsS.of_body Tryd.func75 rfl rfl rfl ?_
  refine Q.rn ?_; (repeat (intro b1; refine Q.rn ?_))
  refine swp_loop (σ := Nat × Nat × Nat × Bool × Bool × Array Int) (fun s => [(0, SV bk n c), (1, .int .i64 s.1), (2, .int .i64 s.2.1), (3, .int .i64 s.2.2.1), (8, .bool s.2.2.2.1), (9, .bool s.2.2.2.2.1)]) (fun s => AR bk s.2.2.2.2.2 rs :: L)
    (fun s => s.1 ≤ s.2.1 ∧ s.2.1 ≤ n ∧ s.2.1 - s.1 ≤ k ∧ s.2.2.1 ≤ 1000 ∧ s.2.2.2.2.2.size = n ∧ Sort.Below lI s.1 s.2.1 s.2.2.2.2.2 ∧ ∀ R, Sort.PermIn s.1 s.2.1 s.2.2.2.2.2 R → Sort.SortedIn lI s.1 s.2.1 R → Sort.PermIn a b d R ∧ Sort.SortedIn lI a b R)
    (fun s => s.2.1 - s.1) (a, b, lim, true, true, d) ⟨rfl, rfl, rfl, rfl, rfl, rfl, trivial⟩ (Ent.refl _) ⟨hab, hb, Nat.le_of_eq hk, hlim, hd, hbel, fun R h1 h2 => ⟨h1, h2⟩⟩ ?_
  rintro ⟨a1, b1, lm, wb, wp, e⟩ ⟨g1, g2, g3, g4, g5, g6, g7⟩
  dsimp only at g1 g2 g3 g4 g5 g6 g7 ⊢
  by_cases h12 : b1 - a1 ≤ 12
  · refine Q.rn ?_; (repeat (intro b1; refine Q.rn ?_))
    refine S.cr rfl (insertionSort_spec bk n c a1 b1 e rs L g5 (by omega) g2 (by omega)) ?_
    rintro _ _ ⟨rfl, rfl⟩
    refine Q.rn ?_; (repeat (intro b1; refine Q.rn ?_))
    have := Sort.insertionSort_holds Sort.swo_ltInt e a1 b1 g1 (by omega)
    exact N.r0 RV.nil (Ent.refl _) ⟨rfl, _, rfl, g7 _ this.1 this.2⟩
  by_cases hl0 : lm = 0
  · subst hl0
    refine Q.rn ?_; (repeat (intro b1; refine Q.rn ?_))
    refine S.cr rfl (heapSort_spec bk n c a1 b1 e rs L g5 (by omega) g2 hn) ?_
    rintro _ _ ⟨rfl, rfl⟩
    refine Q.rn ?_; (repeat (intro b1; refine Q.rn ?_))
    have := Sort.heapSort_holds Sort.swo_ltInt e a1 b1 g1 (by omega)
    exact N.r0 RV.nil (Ent.refl _) ⟨rfl, _, rfl, g7 _ this.1 this.2⟩
  refine Q.rn ?_; (repeat (intro b1; refine Q.rn ?_))
  refine swp_cutT (σ := Nat × Array Int) (fun s => [(0, SV bk n c), (1, .int .i64 a1), (2, .int .i64 b1), (3, .int .i64 s.1), (8, .bool wb), (9, .bool wp), (10, .int .i64 (b1 - a1 : Nat))]) (fun s => AR bk s.2 rs :: L) (fun s => s.1 ≤ 1000 ∧ Sort.PermIn a1 b1 e s.2) ?_ ?_
  · cases wb with
    | true =>
      refine Q.rn ?_; (repeat (intro b1; refine Q.rn ?_))
      first | refine N.tn ?_ | skip
      exact ⟨(lm, e), ⟨rfl, rfl, rfl, rfl, rfl, rfl, rfl, trivial⟩, Ent.refl _, g4, Sort.permIn_refl _ _ _⟩
    | false =>
      refine Q.rn ?_; (repeat (intro b1; refine Q.rn ?_))
      refine S.cr rfl (breakPatterns_spec bk n c a1 b1 e rs L g5 (by omega) g2 hn) ?_
      rintro _ _ ⟨rfl, rfl⟩
      refine Q.rn ?_; (repeat (intro b1; refine Q.rn ?_))
      first | refine N.tn ?_ | skip
      exact ⟨(lm - 1, _), ⟨rfl, rfl, rfl, rfl, rfl, rfl, rfl, trivial⟩, Ent.refl _, by dsimp only; omega, Sort.breakPatterns_holds _ _ _ g1 (by omega)⟩
  rintro ⟨l1, e1⟩ ⟨q1, q2⟩
  dsimp only at q1 q2 ⊢
  have q3 : e1.size = n := by rw [q2.1]; exact g5
  refine Q.rn ?_; (repeat (intro b1; refine Q.rn ?_))
  refine S.cr rfl (choosePivot_spec bk n c a1 b1 e1 rs L q3 (by omega) g2 hn) ?_
  rintro _ _ ⟨rfl, rfl⟩
  have hcp := Sort.choosePivot_holds Sort.ltInt e1 a1 b1 (by omega)
  generalize Sort.choosePivot Sort.ltInt e1 a1 b1 = cp at hcp
  obtain ⟨pv, hint⟩ := cp
  dsimp only at hcp ⊢
  refine Q.rn ?_; (repeat (intro b1; refine Q.rn ?_))
  refine swp_cutT (σ := Nat × Int × Array Int) (fun s => [(0, SV bk n c), (1, .int .i64 a1), (2, .int .i64 b1), (3, .int .i64 l1), (8, .bool wb), (9, .bool wp), (10, .int .i64 (b1 - a1 : Nat)), (11, .int .i64 s.1), (12, .int .i64 s.2.1)]) (fun s => AR bk s.2.2 rs :: L) (fun s => a1 ≤ s.1 ∧ s.1 < b1 ∧ Sort.PermIn a1 b1 e1 s.2.2) ?_ ?_
  · by_cases hdec : hintN hint = 2
    · refine Q.rn ?_; (repeat (intro b1; refine Q.rn ?_))
      refine S.cr rfl (reverseRange_spec bk n c a1 b1 e1 rs L q3 (by omega) g2 hn) ?_
      rintro _ _ ⟨rfl, rfl⟩
      refine Q.rn ?_; (repeat (intro b1; refine Q.rn ?_))
      first | refine N.tn ?_ | skip
      exact ⟨(b1 - 1 - (pv - a1), 1, _), ⟨rfl, rfl, rfl, rfl, rfl, rfl, rfl, rfl, rfl, trivial⟩, Ent.refl _, by dsimp only; omega, by dsimp only; omega, Sort.reverseRange_holds _ _ _ g1 (by omega)⟩
    · refine Q.rn ?_; (repeat (intro b1; refine Q.rn ?_))
      first | refine N.tn ?_ | skip
      exact ⟨(pv, hintN hint, e1), ⟨rfl, rfl, rfl, rfl, rfl, rfl, rfl, rfl, rfl, trivial⟩, Ent.refl _, hcp.1, hcp.2, Sort.permIn_refl _ _ _⟩
  clear hcp
  rintro ⟨p, hh, e2⟩ ⟨p1, p2, p3⟩
  dsimp only at p1 p2 p3 ⊢
  have p4 : e2.size = n := by rw [p3.1]; exact q3
  have p5 : Sort.PermIn a1 b1 e e2 := Sort.permIn_trans _ _ _ a1 b1 q2 p3
  have p6 : Sort.Below lI a1 b1 e2 := below_perm g6 (by omega) p5
  clear p3 q2 q3
  repeat (refine swp_seq ?_)
  refine swp_cutT (σ := Bool) (fun s => [(0, SV bk n c), (1, .int .i64 a1), (2, .int .i64 b1), (3, .int .i64 l1), (8, .bool wb), (9, .bool wp), (10, .int .i64 (b1 - a1 : Nat)), (11, .int .i64 p), (68, .bool s)]) (fun s => AR bk e2 rs :: L) (fun s => True) ?_ ?_
  · cases wb with
    | false =>
      refine Q.rn ?_; (repeat (intro b1; refine Q.rn ?_))
      exact ⟨_, ⟨rfl, rfl, rfl, rfl, rfl, rfl, rfl, rfl, rfl, trivial⟩, Ent.refl _, trivial⟩
    | true =>
      cases wp with
      | false =>
        refine Q.rn ?_; (repeat (intro b1; refine Q.rn ?_))
        exact ⟨_, ⟨rfl, rfl, rfl, rfl, rfl, rfl, rfl, rfl, rfl, trivial⟩, Ent.refl _, trivial⟩
      | true =>
        refine Q.rn ?_; (repeat (intro b1; refine Q.rn ?_))
        exact ⟨_, ⟨rfl, rfl, rfl, rfl, rfl, rfl, rfl, rfl, rfl, trivial⟩, Ent.refl _, trivial⟩
  intro t68 _
  refine swp_cutT (σ := Array Int) (fun s => [(0, SV bk n c), (1, .int .i64 a1), (2, .int .i64 b1), (3, .int .i64 l1), (8, .bool wb), (9, .bool wp), (10, .int .i64 (b1 - a1 : Nat)), (11, .int .i64 p)]) (fun s => AR bk s rs :: L) (fun s => Sort.PermIn a1 b1 e s) ?_ ?_
  · cases t68 with
    | false =>
      refine Q.rn ?_; (repeat (intro b1; refine Q.rn ?_))
      first | refine N.tn ?_ | skip
      exact ⟨e2, ⟨rfl, rfl, rfl, rfl, rfl, rfl, rfl, rfl, trivial⟩, Ent.refl _, p5⟩
    | true =>
      refine Q.rn ?_; (repeat (intro b1; refine Q.rn ?_))
      refine S.cr rfl (partialInsertionSort_spec bk n c a1 b1 e2 rs L p4 (by omega) g2 hn) ?_
      rintro _ _ ⟨rfl, rfl⟩
      have hpi := Sort.partialInsertionSort_holds Sort.swo_ltInt e2 a1 b1 (by omega) (by omega) p6
      have hpp := Sort.permIn_trans _ _ _ a1 b1 p5 hpi.1
      cases hr : (Sort.partialInsertionSort Sort.ltInt e2 a1 b1).2 with
      | true =>
        refine Q.rn ?_; (repeat (intro b1; refine Q.rn ?_))
        exact N.r0 RV.nil (Ent.refl _) ⟨rfl, _, rfl, g7 _ hpp (hpi.2 hr)⟩
      | false =>
        refine Q.rn ?_; (repeat (intro b1; refine Q.rn ?_))
        first | refine N.tn ?_ | skip
        exact ⟨_, ⟨rfl, rfl, rfl, rfl, rfl, rfl, rfl, rfl, trivial⟩, Ent.refl _, hpp⟩
  clear p4 p5 p6
  intro e3 p5
  have p4 : e3.size = n := by rw [p5.1]; exact g5
  have p6 : Sort.Below lI a1 b1 e3 := below_perm g6 (by omega) p5
  repeat (refine swp_seq ?_)
  refine swp_cutT (σ := Bool) (fun s => [(0, SV bk n c), (1, .int .i64 a1), (2, .int .i64 b1), (3, .int .i64 l1), (8, .bool wb), (9, .bool wp), (10, .int .i64 (b1 - a1 : Nat)), (11, .int .i64 p), (87, .bool s)]) (fun s => AR bk e3 rs :: L) (fun s => s = (decide (a1 > 0) && !lI e3[a1 - 1]! e3[p]!)) ?_ ?_
  · by_cases ha0 : 0 < a1
    · refine Q.rn ?_; (repeat (intro b1; refine Q.rn ?_))
      refine Q.dgo [true] [12] [] [0, 1, 2, 3, 4, 5, 6, 7, 8, 9, 10, 11, 12, 13, 14] ?_
      refine Q.rdn ?_; (repeat (intro b1; refine Q.rdn ?_))
      refine D.e rfl rfl rfl ?_
      refine S.guard rfl ?_
      refine S.cr rfl (Less_spec _ _ _) ?_
      rintro _ M ⟨rfl, rfl⟩
      refine Q.rn ?_; (repeat (intro b1; refine Q.rn ?_))
      refine Q.rdn ?_; (repeat (intro b1; refine Q.rdn ?_))
      first | refine N.tn ?_ | skip
      exact ⟨_, ⟨rfl, rfl, rfl, rfl, rfl, rfl, rfl, rfl, rfl, trivial⟩, Ent.refl _, by simp [ha0]⟩
    · refine Q.rn ?_; (repeat (intro b1; refine Q.rn ?_))
      refine Q.dgo [true] [12] [] [0, 1, 2, 3, 4, 5, 6, 7, 8, 9, 10, 11, 12, 13, 14] ?_
      refine Q.rdn ?_; (repeat (intro b1; refine Q.rdn ?_))
      first | refine N.tn ?_ | skip
      exact ⟨_, ⟨rfl, rfl, rfl, rfl, rfl, rfl, rfl, rfl, rfl, trivial⟩, Ent.refl _, by simp [ha0]⟩
  intro s hs
  cases s with
  | true =>
    symm at hs
    simp only [Bool.and_eq_true, decide_eq_true_eq, Bool.not_eq_true'] at hs
    refine Q.rn ?_; (repeat (intro b1; refine Q.rn ?_))
    refine S.cr rfl (partitionEqual_spec bk n c a1 b1 p e3 rs L p4 p1 p2 g2 hn) ?_
    rintro _ _ ⟨rfl, rfl⟩
    cases hx : Sort.partitionEqual Sort.ltInt e3 a1 b1 p with
    | mk mid e4 =>
    obtain ⟨r1, r2, r3, r4, r5⟩ := Sort.round_eq Sort.swo_ltInt (Sort.partitionEqual_holds Sort.ltInt) hs.1 p1 p2 (by omega) p6 hs.2 hx
    refine Q.rn ?_; (repeat (intro b1; refine Q.rn ?_))
    refine ⟨(mid, b1, l1, wb, wp, e4), ⟨rfl, rfl, rfl, rfl, rfl, rfl, trivial⟩, Ent.refl _, ⟨by dsimp only; omega, g2, by dsimp only; omega, q1, by dsimp only; omega, r4, fun R h1 h2 => ?_⟩, by dsimp only; omega⟩
    have := r5 R h1 h2
    exact g7 R (Sort.permIn_trans _ _ _ a1 b1 p5 this.1) this.2
  | false =>
    clear hs
    refine Q.rn ?_; (repeat (intro b1; refine Q.rn ?_))
    refine S.cr rfl (partition_spec bk n c a1 b1 p e3 rs L p4 p1 p2 g2 hn) ?_
    rintro _ _ ⟨rfl, rfl⟩
    rcases hx : Sort.partition Sort.ltInt e3 a1 b1 p with ⟨mid, ap, e4⟩
    obtain ⟨r1, r2, r3, r4, r5, r6, r7⟩ := Sort.round_part Sort.swo_ltInt (Sort.partition_holds Sort.ltInt) p1 p2 (by omega) p6 hx
    refine Q.rn ?_; (repeat (intro b1; refine Q.rn ?_))
    by_cases hlt : mid - a1 < b1 - mid
    · refine Q.rn ?_; (repeat (intro b1; refine Q.rn ?_))
      refine S.cr rfl (ih (mid - a1) (by omega) a1 mid l1 e4 rfl (by omega) r1 (by omega) q1 r4) ?_
      rintro _ _ ⟨rfl, e5, rfl, u1, u2⟩
      obtain ⟨w1, w2⟩ := r6 e5 u1 u2
      refine Q.rn ?_; (repeat (intro b1; refine Q.rn ?_))
      refine ⟨(mid + 1, b1, l1, _, ap, e5), ⟨rfl, rfl, rfl, rfl, rfl, rfl, trivial⟩, Ent.refl _, ⟨by dsimp only; omega, g2, by dsimp only; omega, q1, by dsimp only; rw [u1.1]; omega, w1, fun R h1 h2 => ?_⟩, by dsimp only; omega⟩
      have := w2 R h1 h2
      exact g7 R (Sort.permIn_trans _ _ _ a1 b1 p5 this.1) this.2
    · refine Q.rn ?_; (repeat (intro b1; refine Q.rn ?_))
      refine S.cr rfl (ih (b1 - (mid + 1)) (by omega) (mid + 1) b1 l1 e4 rfl (by omega) (by omega) g2 q1 r5) ?_
      rintro _ _ ⟨rfl, e5, rfl, u1, u2⟩
      obtain ⟨w1, w2⟩ := r7 e5 u1 u2
      refine Q.rn ?_; (repeat (intro b1; refine Q.rn ?_))
      refine ⟨(a1, mid, l1, _, ap, e5), ⟨rfl, rfl, rfl, rfl, rfl, rfl, trivial⟩, Ent.refl _, ⟨r1, by dsimp only; omega, by dsimp only; omega, q1, by dsimp only; rw [u1.1]; omega, w1, fun R h1 h2 => ?_⟩, by dsimp only; omega⟩
      have := w2 R h1 h2
      exact g7 R (Sort.permIn_trans _ _ _ a1 b1 p5 this.1) this.2
end Go.Proofs.YtjidejcehmamkaaDoor
