/- slices.Sort's parts at numbers of type uint64, walked: partialInsertionSort. No condition. -/
import Derived.Test.YtjidejcehmamkaaDoorSrtC
set_option linter.unusedVariables false
set_option linter.unusedSimpArgs false
namespace Go.Proofs.YtjidejcehmamkaaDoor
open Go Go.SX
attribute [local irreducible] swp opsS thenS blockS retS CallsS St Ent YieldS anyS drawS
attribute [local irreducible] ar
theorem scanSorted_ge (d : Array Int) (b i : Nat) (h : i ≤ b) : i ≤ Sort.scanSorted Sort.ltInt d b i ∧ Sort.scanSorted Sort.ltInt d b i ≤ b := by
  induction hk : b - i using Nat.strongRecOn generalizing i with
  | _ k ih =>
    rw [Sort.scanSorted]
    split
    · rename_i hc
      simp only [Bool.and_eq_true, decide_eq_true_eq] at hc
      have := ih _ (by omega) (i + 1) (by omega) rfl
      omega
    · omega
theorem shiftDown_size : ∀ (j : Nat) (d : Array Int), (Sort.shiftDown Sort.ltInt j d).size = d.size
  | 0, d => rfl
  | j + 1, d => by
    rw [Sort.shiftDown]
    split
    · rfl
    · rw [shiftDown_size j, swp_size]
theorem shiftUp_size (b j : Nat) (d : Array Int) : (Sort.shiftUp Sort.ltInt b j d).size = d.size := by
  induction hk : b - j using Nat.strongRecOn generalizing j d with
  | _ k ih =>
    rw [Sort.shiftUp]
    split
    · split
      · rfl
      · rw [ih _ (by omega) (j + 1) _ rfl, swp_size]
    · rfl
set_option maxHeartbeats 20000000 in
theorem partialInsertionSort_spec (bk n c a b : Nat) (d : Array Int) (rs : List Value) (L : List HP) (hd : d.size = n) (ha : a < b) (hb : b ≤ n) (hn : n ≤ 17592186044416) :
    CallsS Tryd.prog 83 [SV bk n c, .int .i64 a, .int .i64 b] (AR bk d rs :: L)
      (fun v L' => v = .bool (Sort.partialInsertionSort Sort.ltInt d a b).2 ∧ L' = AR bk (Sort.partialInsertionSort Sort.ltInt d a b).1 rs :: L) := by
  refine CallsS.of_body Tryd.func83 rfl rfl rfl ?_
  refine Q.rn ?_; (repeat (intro b1; refine Q.rn ?_))
  refine swp_loop (σ := Nat × Nat × Array Int) (fun s => [(0, SV bk n c), (1, .int .i64 a), (2, .int .i64 b), (7, .int .i64 s.2.1), (8, .int .i64 ((5 - s.1 : Nat) : Int))]) (fun s => AR bk s.2.2 rs :: L)
    (fun s => s.1 ≤ 5 ∧ a + 1 ≤ s.2.1 ∧ s.2.1 ≤ b ∧ s.2.2.size = n ∧ Sort.partialIns Sort.ltInt a b s.1 s.2.1 s.2.2 = Sort.partialInsertionSort Sort.ltInt d a b) (fun s => s.1) (5, a + 1, d) ⟨rfl, rfl, rfl, rfl, rfl, trivial⟩ (Ent.refl _) ⟨Nat.le_refl _, by dsimp only; omega, by dsimp only; omega, hd, rfl⟩ ?_
  rintro ⟨st, i0, e⟩ ⟨h1, h2, h3, h4, h5⟩
  dsimp only at h1 h2 h3 h4 h5 ⊢
  cases st with
  | zero =>
    rw [Sort.partialIns] at h5
    rw [← h5]
    refine Q.rn ?_; (repeat (intro b1; refine Q.rn ?_))
    exact N.r1 (RV.tmp rfl RV.nil) (Ent.refl _) ⟨rfl, rfl⟩
  | succ st =>
  obtain ⟨k, hk⟩ : ∃ k, k = 5 - (st + 1) := ⟨_, rfl⟩
  rw [← hk]
  have hk5 : k < 5 := by omega
  rw [Sort.partialIns] at h5
  obtain ⟨i1, hi1⟩ : ∃ i1, i1 = Sort.scanSorted Sort.ltInt e b i0 := ⟨_, rfl⟩
  have bi := scanSorted_ge e b i0 h3
  rw [← hi1] at bi
  simp only [← hi1] at h5
  refine Q.rn ?_; (repeat (intro b1; refine Q.rn ?_))
  refine swp_cutB (σ := Unit) (fun _ => [(0, SV bk n c), (1, .int .i64 a), (2, .int .i64 b), (7, .int .i64 i1), (8, .int .i64 k)]) (fun _ => AR bk e rs :: L) (fun _ => True) ?_ ?_
  · refine swp_loop (σ := Nat) (fun s => [(0, SV bk n c), (1, .int .i64 a), (2, .int .i64 b), (7, .int .i64 s), (8, .int .i64 k)]) (fun s => AR bk e rs :: L)
      (fun s => a + 1 ≤ s ∧ s ≤ b ∧ Sort.scanSorted Sort.ltInt e b s = i1) (fun s => b - s) i0 ⟨rfl, rfl, rfl, rfl, rfl, trivial⟩ (Ent.refl _) ⟨h2, h3, hi1.symm⟩ ?_
    rintro i ⟨g1, g2, g3⟩
    rw [Sort.scanSorted] at g3
    by_cases hi : i < b
    · refine Q.rn ?_; (repeat (intro b1; refine Q.rn ?_))
      refine Q.dgo [true] [13] [] [0, 1, 2, 3, 4, 5, 6, 7, 8, 9, 10, 11, 12, 13, 14, 15] ?_
      refine Q.rdn ?_; (repeat (intro b1; refine Q.rdn ?_))
      refine D.e rfl rfl rfl ?_
      refine S.guard rfl ?_
      refine S.cr rfl (Less_spec _ _ _) ?_
      rintro _ M ⟨rfl, rfl⟩
      rw [show decide (i < b) = true by simpa using hi, Bool.true_and] at g3
      cases hl : Sort.ltInt e[i]! e[i - 1]! with
      | false =>
        rw [hl] at g3
        simp only [Bool.not_false, if_true] at g3
        refine Q.rn ?_; (repeat (intro b1; refine Q.rn ?_))
        refine Q.rdn ?_; (repeat (intro b1; refine Q.rdn ?_))
        refine Q.rn ?_; (repeat (intro b1; refine Q.rn ?_))
        exact ⟨i + 1, ⟨rfl, rfl, rfl, rfl, rfl, trivial⟩, Ent.refl _, ⟨by omega, by omega, g3⟩, by omega⟩
      | true =>
        rw [hl] at g3
        simp only [Bool.not_true, Bool.false_eq_true, if_false] at g3
        refine Q.rn ?_; (repeat (intro b1; refine Q.rn ?_))
        refine Q.rdn ?_; (repeat (intro b1; refine Q.rdn ?_))
        refine Q.rn ?_; (repeat (intro b1; refine Q.rn ?_))
        exact ⟨(), ⟨rfl, rfl, rfl, by rw [g3]; rfl, rfl, trivial⟩, Ent.refl _, trivial⟩
    · rw [show decide (i < b) = false by simpa using hi, Bool.false_and] at g3
      simp only [Bool.false_eq_true, if_false] at g3
      refine Q.rn ?_; (repeat (intro b1; refine Q.rn ?_))
      refine Q.dgo [true] [13] [] [0, 1, 2, 3, 4, 5, 6, 7, 8, 9, 10, 11, 12, 13, 14, 15] ?_
      refine Q.rdn ?_; (repeat (intro b1; refine Q.rdn ?_))
      refine Q.rn ?_; (repeat (intro b1; refine Q.rn ?_))
      exact ⟨(), ⟨rfl, rfl, rfl, by rw [g3]; rfl, rfl, trivial⟩, Ent.refl _, trivial⟩
  rintro _ _
  by_cases hib : i1 = b
  · rw [if_pos hib] at h5
    rw [← h5]
    refine Q.rn ?_; (repeat (intro b1; refine Q.rn ?_))
    exact N.r1 (RV.tmp rfl RV.nil) (Ent.refl _) ⟨rfl, rfl⟩
  rw [if_neg hib] at h5
  by_cases h50 : b - a < 50
  · rw [if_pos h50] at h5
    rw [← h5]
    refine Q.rn ?_; (repeat (intro b1; refine Q.rn ?_))
    exact N.r1 (RV.tmp rfl RV.nil) (Ent.refl _) ⟨rfl, rfl⟩
  rw [if_neg h50] at h5
  refine Q.rn ?_; (repeat (intro b1; refine Q.rn ?_))
  refine Q.dgo [true] [15, 17] [15] [0, 1, 2, 3, 4, 5, 6, 7, 8, 9, 10, 11, 12, 13, 14, 15, 16, 17] ?_; (refine Q.rdn ?_; (repeat (intro b1; refine Q.rdn ?_))); refine Q.dc rfl rfl rfl rfl ?_; (refine Q.rn ?_; (repeat (intro b1; refine Q.rn ?_))); (refine Q.rdn ?_; (repeat (intro b1; refine Q.rdn ?_))); refine D.e rfl rfl rfl ?_; (refine Q.rn ?_; (repeat (intro b1; refine Q.rn ?_))); (refine Q.rdn ?_; (repeat (intro b1; refine Q.rdn ?_))); (refine Q.rn ?_; (repeat (intro b1; refine Q.rn ?_)))
  have hes : (Sort.swp e i1 (i1 - 1)).size = n := by rw [swp_size]; exact h4
  obtain ⟨e1, he1⟩ : ∃ e1, e1 = (if i1 - a ≥ 2 then Sort.shiftDown Sort.ltInt (i1 - 1) (Sort.swp e i1 (i1 - 1)) else Sort.swp e i1 (i1 - 1)) := ⟨_, rfl⟩
  have he1s : e1.size = n := by rw [he1]; split <;> first | (rw [shiftDown_size]; exact hes) | exact hes
  rw [← he1] at h5
  refine swp_cutT (σ := Unit) (fun _ => [(0, SV bk n c), (1, .int .i64 a), (2, .int .i64 b), (7, .int .i64 i1), (8, .int .i64 k)]) (fun _ => AR bk e1 rs :: L) (fun _ => True) ?_ ?_
  · by_cases h2a : i1 - a ≥ 2
    · rw [if_pos h2a] at he1
      refine Q.rn ?_; (repeat (intro b1; refine Q.rn ?_))
      refine swp_loop (σ := Nat × Array Int) (fun s => [(0, SV bk n c), (1, .int .i64 a), (2, .int .i64 b), (7, .int .i64 i1), (8, .int .i64 k), (9, .int .i64 s.1)]) (fun s => AR bk s.2 rs :: L)
        (fun s => s.1 < b ∧ s.2.size = n ∧ Sort.shiftDown Sort.ltInt s.1 s.2 = e1) (fun s => s.1) (i1 - 1, Sort.swp e i1 (i1 - 1)) ⟨rfl, rfl, rfl, rfl, rfl, rfl, trivial⟩ (Ent.refl _) ⟨by dsimp only; omega, hes, he1.symm⟩ ?_
      rintro ⟨j, g⟩ ⟨g1, g2, g3⟩
      dsimp only at g1 g2 g3 ⊢
      cases j with
      | zero =>
        rw [Sort.shiftDown] at g3
        subst g3
        refine Q.rn ?_; (repeat (intro b1; refine Q.rn ?_))
        exact ⟨(), ⟨rfl, rfl, rfl, rfl, rfl, trivial⟩, Ent.refl _, trivial⟩
      | succ j =>
        rw [Sort.shiftDown] at g3
        refine Q.rn ?_; (repeat (intro b1; refine Q.rn ?_))
        refine Q.dgo [true] [9] [] [0, 1, 2, 3, 4, 5, 6, 7, 8, 9, 10] ?_
        refine Q.rdn ?_; (repeat (intro b1; refine Q.rdn ?_))
        refine D.e rfl rfl rfl ?_
        refine S.cr rfl (Less_spec _ _ _) ?_
        rintro _ M ⟨rfl, rfl⟩
        cases hl : Sort.ltInt g[j + 1]! g[j]! with
        | false =>
          rw [hl] at g3
          simp only [Bool.not_false, if_true] at g3
          rw [show j + 1 - 1 = j from rfl, hl]
          subst g3
          refine Q.rn ?_; (repeat (intro b1; refine Q.rn ?_))
          refine Q.rdn ?_; (repeat (intro b1; refine Q.rdn ?_))
          refine Q.rn ?_; (repeat (intro b1; refine Q.rn ?_))
          exact ⟨(), ⟨rfl, rfl, rfl, rfl, rfl, trivial⟩, Ent.refl _, trivial⟩
        | true =>
          rw [hl] at g3
          simp only [Bool.not_true, Bool.false_eq_true, if_false] at g3
          rw [show j + 1 - 1 = j from rfl, hl]
          refine Q.rn ?_; (repeat (intro b1; refine Q.rn ?_))
          refine Q.rdn ?_; (repeat (intro b1; refine Q.rdn ?_))
          refine Q.rn ?_; (repeat (intro b1; refine Q.rn ?_))
          refine Q.dgo [true] [15, 17] [15] [0, 1, 2, 3, 4, 5, 6, 7, 8, 9, 10, 11, 12, 13, 14, 15, 16, 17] ?_; (refine Q.rdn ?_; (repeat (intro b1; refine Q.rdn ?_))); refine Q.dc rfl rfl rfl rfl ?_; (refine Q.rn ?_; (repeat (intro b1; refine Q.rn ?_))); (refine Q.rdn ?_; (repeat (intro b1; refine Q.rdn ?_))); refine D.e rfl rfl rfl ?_; (refine Q.rn ?_; (repeat (intro b1; refine Q.rn ?_))); (refine Q.rdn ?_; (repeat (intro b1; refine Q.rdn ?_))); (refine Q.rn ?_; (repeat (intro b1; refine Q.rn ?_)))
          exact ⟨(j, Sort.swp g (j + 1) j), ⟨rfl, rfl, rfl, rfl, rfl, rfl, trivial⟩, Ent.refl _, ⟨by dsimp only; omega, by rw [swp_size]; exact g2, g3⟩, by dsimp only; omega⟩
    · rw [if_neg h2a] at he1
      subst he1
      refine Q.rn ?_; (repeat (intro b1; refine Q.rn ?_))
      first | refine N.tn ?_ | skip
      exact ⟨(), ⟨rfl, rfl, rfl, rfl, rfl, trivial⟩, Ent.refl _, trivial⟩
  rintro _ _
  clear he1 hes
  obtain ⟨e2, he2⟩ : ∃ e2, e2 = (if b - i1 ≥ 2 then Sort.shiftUp Sort.ltInt b (i1 + 1) e1 else e1) := ⟨_, rfl⟩
  have he2s : e2.size = n := by rw [he2]; split <;> first | (rw [shiftUp_size]; exact he1s) | exact he1s
  rw [← he2] at h5
  refine Q.rn ?_; (repeat (intro b1; refine Q.rn ?_))
  refine swp_cutB (σ := Unit) (fun _ => [(0, SV bk n c), (1, .int .i64 a), (2, .int .i64 b), (7, .int .i64 i1), (8, .int .i64 k)]) (fun _ => AR bk e2 rs :: L) (fun _ => True) ?_ ?_
  · by_cases h2b : b - i1 ≥ 2
    · rw [if_pos h2b] at he2
      refine Q.rn ?_; (repeat (intro b1; refine Q.rn ?_))
      refine swp_loop (σ := Nat × Array Int) (fun s => [(0, SV bk n c), (1, .int .i64 a), (2, .int .i64 b), (7, .int .i64 i1), (8, .int .i64 k), (10, .int .i64 s.1)]) (fun s => AR bk s.2 rs :: L)
        (fun s => 1 ≤ s.1 ∧ s.1 ≤ b ∧ s.2.size = n ∧ Sort.shiftUp Sort.ltInt b s.1 s.2 = e2) (fun s => b - s.1) (i1 + 1, e1) ⟨rfl, rfl, rfl, rfl, rfl, rfl, trivial⟩ (Ent.refl _) ⟨by dsimp only; omega, by dsimp only; omega, he1s, he2.symm⟩ ?_
      rintro ⟨j, g⟩ ⟨g0, g1, g2, g3⟩
      dsimp only at g0 g1 g2 g3 ⊢
      rw [Sort.shiftUp] at g3
      by_cases hj : j < b
      · rw [if_pos hj] at g3
        refine Q.rn ?_; (repeat (intro b1; refine Q.rn ?_))
        refine Q.dgo [true] [9] [] [0, 1, 2, 3, 4, 5, 6, 7, 8, 9, 10] ?_
        refine Q.rdn ?_; (repeat (intro b1; refine Q.rdn ?_))
        refine D.e rfl rfl rfl ?_
        refine S.cr rfl (Less_spec _ _ _) ?_
        rintro _ M ⟨rfl, rfl⟩
        cases hl : Sort.ltInt g[j]! g[j - 1]! with
        | false =>
          rw [hl] at g3
          simp only [Bool.not_false, if_true] at g3
          subst g3
          refine Q.rn ?_; (repeat (intro b1; refine Q.rn ?_))
          refine Q.rdn ?_; (repeat (intro b1; refine Q.rdn ?_))
          refine Q.rn ?_; (repeat (intro b1; refine Q.rn ?_))
          exact ⟨(), ⟨rfl, rfl, rfl, rfl, rfl, trivial⟩, Ent.refl _, trivial⟩
        | true =>
          rw [hl] at g3
          simp only [Bool.not_true, Bool.false_eq_true, if_false] at g3
          refine Q.rn ?_; (repeat (intro b1; refine Q.rn ?_))
          refine Q.rdn ?_; (repeat (intro b1; refine Q.rdn ?_))
          refine Q.rn ?_; (repeat (intro b1; refine Q.rn ?_))
          refine Q.dgo [true] [15, 17] [15] [0, 1, 2, 3, 4, 5, 6, 7, 8, 9, 10, 11, 12, 13, 14, 15, 16, 17] ?_; (refine Q.rdn ?_; (repeat (intro b1; refine Q.rdn ?_))); refine Q.dc rfl rfl rfl rfl ?_; (refine Q.rn ?_; (repeat (intro b1; refine Q.rn ?_))); (refine Q.rdn ?_; (repeat (intro b1; refine Q.rdn ?_))); refine D.e rfl rfl rfl ?_; (refine Q.rn ?_; (repeat (intro b1; refine Q.rn ?_))); (refine Q.rdn ?_; (repeat (intro b1; refine Q.rdn ?_))); (refine Q.rn ?_; (repeat (intro b1; refine Q.rn ?_)))
          exact ⟨(j + 1, Sort.swp g j (j - 1)), ⟨rfl, rfl, rfl, rfl, rfl, rfl, trivial⟩, Ent.refl _, ⟨by dsimp only; omega, by dsimp only; omega, by rw [swp_size]; exact g2, g3⟩, by dsimp only; omega⟩
      · rw [if_neg hj] at g3
        subst g3
        refine Q.rn ?_; (repeat (intro b1; refine Q.rn ?_))
        exact ⟨(), ⟨rfl, rfl, rfl, rfl, rfl, trivial⟩, Ent.refl _, trivial⟩
    · rw [if_neg h2b] at he2
      subst he2
      refine Q.rn ?_; (repeat (intro b1; refine Q.rn ?_))
      first | refine N.tn ?_ | skip
      exact ⟨(), ⟨rfl, rfl, rfl, rfl, rfl, trivial⟩, Ent.refl _, trivial⟩
  rintro _ _
  refine Q.rn ?_; (repeat (intro b1; refine Q.rn ?_))
  exact ⟨(st, i1, e2), ⟨rfl, rfl, rfl, rfl, congrArg some (congrArg (Value.int .i64) (by dsimp only; omega)), trivial⟩, Ent.refl _, ⟨by dsimp only; omega, by dsimp only; omega, bi.2, he2s, h5⟩, by dsimp only; omega⟩
end Go.Proofs.YtjidejcehmamkaaDoor
