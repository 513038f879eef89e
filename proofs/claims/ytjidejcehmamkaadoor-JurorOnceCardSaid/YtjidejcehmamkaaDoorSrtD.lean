/- slices.Sort's parts at numbers of type uint64, walked: partition. No condition. By a program (wip/gen/srt.py). -/
import Derived.Test.YtjidejcehmamkaaDoorSrtC
set_option linter.unusedVariables false
set_option linter.unusedSimpArgs false
namespace Go.Proofs.YtjidejcehmamkaaDoor
open Go Go.SX
attribute [local irreducible] swp opsS thenS blockS retS CallsS St Ent YieldS anyS drawS
attribute [local irreducible] ar
theorem scanUp_ge (p : Int → Bool) (d : Array Int) (j i : Nat) : i ≤ Sort.scanUp p d j i ∧ (Sort.scanUp p d j i ≤ i ∨ Sort.scanUp p d j i ≤ j + 1) := by
  induction h : j + 1 - i using Nat.strongRecOn generalizing i with
  | _ k ih =>
    rw [Sort.scanUp]
    split
    · rename_i hc
      simp only [Bool.and_eq_true, decide_eq_true_eq] at hc
      have := ih _ (by omega) (i + 1) rfl
      omega
    · omega
theorem scanDown_le (p : Int → Bool) (d : Array Int) (i : Nat) : ∀ j, Sort.scanDown p d i j ≤ j ∧ (i ≤ Sort.scanDown p d i j + 1 ∨ Sort.scanDown p d i j = j)
  | 0 => by simp [Sort.scanDown]
  | j + 1 => by
    rw [Sort.scanDown]
    split
    · rename_i hc
      simp only [Bool.and_eq_true, decide_eq_true_eq] at hc
      have := scanDown_le p d i j
      omega
    · omega
set_option maxHeartbeats 20000000 in
theorem partition_spec (bk n c a b pv : Nat) (d : Array Int) (rs : List Value) (L : List HP) (hd : d.size = n) (ha : a ≤ pv) (hp : pv < b) (hb : b ≤ n) (hn : n ≤ 17592186044416) :
    CallsS Tryd.prog 86 [SV bk n c, .int .i64 a, .int .i64 b, .int .i64 pv] (AR bk d rs :: L)
      (fun v L' => v = .tuple #[.int .i64 (Sort.partition Sort.ltInt d a b pv).1, .bool (Sort.partition Sort.ltInt d a b pv).2.1] ∧ L' = AR bk (Sort.partition Sort.ltInt d a b pv).2.2 rs :: L) := by
  refine CallsS.of_body Tryd.func86 rfl rfl rfl ?_
  refine Q.rn ?_; (repeat (intro b1; refine Q.rn ?_))
  refine Q.dgo [true] [13, 15] [13] [0, 1, 2, 3, 4, 5, 6, 7, 8, 9, 10, 11, 12, 13, 14, 15] ?_; (refine Q.rdn ?_; (repeat (intro b1; refine Q.rdn ?_))); refine Q.dc rfl rfl rfl rfl ?_; (refine Q.rn ?_; (repeat (intro b1; refine Q.rn ?_))); (refine Q.rdn ?_; (repeat (intro b1; refine Q.rdn ?_))); refine D.e rfl rfl rfl ?_; (refine Q.rn ?_; (repeat (intro b1; refine Q.rn ?_))); (refine Q.rdn ?_; (repeat (intro b1; refine Q.rdn ?_))); (refine Q.rn ?_; (repeat (intro b1; refine Q.rn ?_)))
  have he : (Sort.swp d a pv).size = n := by rw [swp_size]; exact hd
  obtain ⟨e, hee⟩ : ∃ e, e = Sort.swp d a pv := ⟨_, rfl⟩
  obtain ⟨i0, hi0⟩ : ∃ i0, i0 = Sort.scanUp (fun x => Sort.ltInt x e[a]!) e (b - 1) (a + 1) := ⟨_, rfl⟩
  obtain ⟨j0, hj0⟩ : ∃ j0, j0 = Sort.scanDown (fun x => !Sort.ltInt x e[a]!) e i0 (b - 1) := ⟨_, rfl⟩
  have hpart : Sort.partition Sort.ltInt d a b pv = (if i0 > j0 then (j0, true, Sort.swp e j0 a) else ((Sort.partLoop Sort.ltInt a (i0 + 1) (j0 - 1) (Sort.swp e i0 j0)).1, false, Sort.swp (Sort.partLoop Sort.ltInt a (i0 + 1) (j0 - 1) (Sort.swp e i0 j0)).2 (Sort.partLoop Sort.ltInt a (i0 + 1) (j0 - 1) (Sort.swp e i0 j0)).1 a)) := by
    subst hee hj0 hi0; rfl
  rw [← hee] at he
  rw [hpart]
  clear hpart
  have bi := scanUp_ge (fun x => Sort.ltInt x e[a]!) e (b - 1) (a + 1)
  have bj := scanDown_le (fun x => !Sort.ltInt x e[a]!) e i0 (b - 1)
  rw [← hi0] at bi
  rw [← hj0] at bj
  refine swp_cutB (σ := Unit) (fun _ => [(0, SV bk n c), (1, .int .i64 a), (10, .int .i64 i0), (11, .int .i64 (b - 1 : Nat))]) (fun _ => AR bk e rs :: L) (fun _ => True) ?_ ?_
  · refine swp_loop (σ := Nat) (fun s => [(0, SV bk n c), (1, .int .i64 a), (10, .int .i64 s), (11, .int .i64 (b - 1 : Nat))]) (fun s => AR bk e rs :: L)
      (fun s => a + 1 ≤ s ∧ Sort.scanUp (fun x => Sort.ltInt x e[a]!) e (b - 1 : Nat) s = i0) (fun s => (b - 1 : Nat) + 1 - s) (a + 1) ⟨rfl, rfl, rfl, rfl, trivial⟩ (by rw [hee]; exact Ent.refl _) ⟨Nat.le_refl _, hi0.symm⟩ ?_
    rintro i ⟨g1, g3⟩
    rw [Sort.scanUp] at g3
    by_cases hi : i ≤ (b - 1 : Nat)
    · refine Q.rn ?_; (repeat (intro b1; refine Q.rn ?_))
      refine Q.dgo [true] [12] [] [0, 1, 2, 3, 4, 5, 6, 7, 8, 9, 10, 11, 12, 13] ?_
      refine Q.rdn ?_; (repeat (intro b1; refine Q.rdn ?_))
      refine D.e rfl rfl rfl ?_
      refine S.guard rfl ?_
      refine S.cr rfl (Less_spec _ _ _) ?_
      rintro _ M ⟨rfl, rfl⟩
      rw [show decide (i ≤ (b - 1 : Nat)) = true by simpa using hi, Bool.true_and] at g3
      cases hl : Sort.ltInt e[i]! e[a]! with
      | true =>
        rw [hl] at g3
        simp only [Bool.not_false, Bool.not_true, if_true] at g3
        refine Q.rn ?_; (repeat (intro b1; refine Q.rn ?_))
        refine Q.rdn ?_; (repeat (intro b1; refine Q.rdn ?_))
        refine Q.rn ?_; (repeat (intro b1; refine Q.rn ?_))
        exact ⟨i + 1, ⟨rfl, rfl, rfl, rfl, trivial⟩, Ent.refl _, ⟨by omega, g3⟩, by omega⟩
      | false =>
        rw [hl] at g3
        simp only [Bool.not_false, Bool.not_true, Bool.false_eq_true, if_false] at g3
        refine Q.rn ?_; (repeat (intro b1; refine Q.rn ?_))
        refine Q.rdn ?_; (repeat (intro b1; refine Q.rdn ?_))
        refine Q.rn ?_; (repeat (intro b1; refine Q.rn ?_))
        exact ⟨(), ⟨rfl, rfl, by rw [g3]; rfl, rfl, trivial⟩, Ent.refl _, trivial⟩
    · rw [show decide (i ≤ (b - 1 : Nat)) = false by simpa using hi, Bool.false_and] at g3
      simp only [Bool.false_eq_true, if_false] at g3
      refine Q.rn ?_; (repeat (intro b1; refine Q.rn ?_))
      refine Q.dgo [true] [12] [] [0, 1, 2, 3, 4, 5, 6, 7, 8, 9, 10, 11, 12, 13] ?_
      refine Q.rdn ?_; (repeat (intro b1; refine Q.rdn ?_))
      refine Q.rn ?_; (repeat (intro b1; refine Q.rn ?_))
      exact ⟨(), ⟨rfl, rfl, by rw [g3]; rfl, rfl, trivial⟩, Ent.refl _, trivial⟩
  rintro _ _
  refine Q.rn ?_; (repeat (intro b1; refine Q.rn ?_))
  refine swp_cutB (σ := Unit) (fun _ => [(0, SV bk n c), (1, .int .i64 a), (10, .int .i64 i0), (11, .int .i64 j0)]) (fun _ => AR bk e rs :: L) (fun _ => True) ?_ ?_
  · refine swp_loop (σ := Nat) (fun s => [(0, SV bk n c), (1, .int .i64 a), (10, .int .i64 i0), (11, .int .i64 s)]) (fun s => AR bk e rs :: L)
      (fun s => s ≤ (b - 1 : Nat) ∧ Sort.scanDown (fun x => !Sort.ltInt x e[a]!) e i0 s = j0) (fun s => s) ((b - 1 : Nat)) ⟨rfl, rfl, rfl, rfl, trivial⟩ (Ent.refl _) ⟨Nat.le_refl _, hj0.symm⟩ ?_
    rintro j ⟨g1, g3⟩
    by_cases hi : i0 ≤ j
    · obtain ⟨k, rfl⟩ : ∃ k, j = k + 1 := ⟨j - 1, by omega⟩
      rw [Sort.scanDown] at g3
      refine Q.rn ?_; (repeat (intro b1; refine Q.rn ?_))
      refine Q.dgo [true] [12] [] [0, 1, 2, 3, 4, 5, 6, 7, 8, 9, 10, 11, 12, 13, 14] ?_
      refine Q.rdn ?_; (repeat (intro b1; refine Q.rdn ?_))
      refine D.e rfl rfl rfl ?_
      refine S.guard rfl ?_
      refine S.cr rfl (Less_spec _ _ _) ?_
      rintro _ M ⟨rfl, rfl⟩
      rw [show decide (i0 ≤ k + 1) = true by simpa using hi, Bool.true_and] at g3
      cases hl : Sort.ltInt e[k + 1]! e[a]! with
      | false =>
        rw [hl] at g3
        simp only [Bool.not_false, Bool.not_true, if_true] at g3
        refine Q.rn ?_; (repeat (intro b1; refine Q.rn ?_))
        refine Q.rdn ?_; (repeat (intro b1; refine Q.rdn ?_))
        refine Q.rn ?_; (repeat (intro b1; refine Q.rn ?_))
        exact ⟨k, ⟨rfl, rfl, rfl, rfl, trivial⟩, Ent.refl _, ⟨by omega, g3⟩, by omega⟩
      | true =>
        rw [hl] at g3
        simp only [Bool.not_false, Bool.not_true, Bool.false_eq_true, if_false] at g3
        refine Q.rn ?_; (repeat (intro b1; refine Q.rn ?_))
        refine Q.rdn ?_; (repeat (intro b1; refine Q.rdn ?_))
        refine Q.rn ?_; (repeat (intro b1; refine Q.rn ?_))
        exact ⟨(), ⟨rfl, rfl, rfl, by rw [← g3]; rfl, trivial⟩, Ent.refl _, trivial⟩
    · have g4 : j = j0 := by
        rw [← g3]
        cases j with
        | zero => rfl
        | succ j => rw [Sort.scanDown, show decide (i0 ≤ j + 1) = false by simpa using hi]; simp
      refine Q.rn ?_; (repeat (intro b1; refine Q.rn ?_))
      refine Q.dgo [true] [12] [] [0, 1, 2, 3, 4, 5, 6, 7, 8, 9, 10, 11, 12, 13, 14] ?_
      refine Q.rdn ?_; (repeat (intro b1; refine Q.rdn ?_))
      refine Q.rn ?_; (repeat (intro b1; refine Q.rn ?_))
      exact ⟨(), ⟨rfl, rfl, rfl, by rw [g4]; rfl, trivial⟩, Ent.refl _, trivial⟩
  rintro _ _
  by_cases hgt : i0 > j0
  · rw [if_pos hgt]
    refine Q.rn ?_; (repeat (intro b1; refine Q.rn ?_))
    refine Q.dgo [true] [13, 15] [13] [0, 1, 2, 3, 4, 5, 6, 7, 8, 9, 10, 11, 12, 13, 14, 15] ?_; (refine Q.rdn ?_; (repeat (intro b1; refine Q.rdn ?_))); refine Q.dc rfl rfl rfl rfl ?_; (refine Q.rn ?_; (repeat (intro b1; refine Q.rn ?_))); (refine Q.rdn ?_; (repeat (intro b1; refine Q.rdn ?_))); refine D.e rfl rfl rfl ?_; (refine Q.rn ?_; (repeat (intro b1; refine Q.rn ?_))); (refine Q.rdn ?_; (repeat (intro b1; refine Q.rdn ?_))); (refine Q.rn ?_; (repeat (intro b1; refine Q.rn ?_)))
    exact N.r2 (RV.tmp rfl (RV.tmp rfl RV.nil)) (Ent.refl _) ⟨rfl, rfl⟩
  rw [if_neg hgt]
  refine Q.rn ?_; (repeat (intro b1; refine Q.rn ?_))
  refine Q.dgo [true] [13, 15] [13] [0, 1, 2, 3, 4, 5, 6, 7, 8, 9, 10, 11, 12, 13, 14, 15] ?_; (refine Q.rdn ?_; (repeat (intro b1; refine Q.rdn ?_))); refine Q.dc rfl rfl rfl rfl ?_; (refine Q.rn ?_; (repeat (intro b1; refine Q.rn ?_))); (refine Q.rdn ?_; (repeat (intro b1; refine Q.rdn ?_))); refine D.e rfl rfl rfl ?_; (refine Q.rn ?_; (repeat (intro b1; refine Q.rn ?_))); (refine Q.rdn ?_; (repeat (intro b1; refine Q.rdn ?_))); (refine Q.rn ?_; (repeat (intro b1; refine Q.rn ?_)))
  obtain ⟨pr, hpr⟩ : ∃ pr, pr = Sort.partLoop Sort.ltInt a (i0 + 1) (j0 - 1) (Sort.swp e i0 j0) := ⟨_, rfl⟩
  rw [← hpr]
  refine swp_cutB (σ := Unit) (fun _ => [(0, SV bk n c), (1, .int .i64 a), (11, .int .i64 pr.1)]) (fun _ => AR bk pr.2 rs :: L) (fun _ => pr.1 < b ∧ pr.2.size = n) ?_ ?_
  · refine swp_loop (σ := Nat × Nat × Array Int) (fun s => [(0, SV bk n c), (1, .int .i64 a), (10, .int .i64 s.1), (11, .int .i64 s.2.1)]) (fun s => AR bk s.2.2 rs :: L)
      (fun s => a + 1 ≤ s.1 ∧ s.1 ≤ b + 1 ∧ s.2.1 < b ∧ s.2.2.size = n ∧ Sort.partLoop Sort.ltInt a s.1 s.2.1 s.2.2 = pr) (fun s => s.2.1 + 1 - s.1) (i0 + 1, j0 - 1, Sort.swp e i0 j0) ⟨rfl, rfl, rfl, rfl, trivial⟩ (Ent.refl _) ⟨by dsimp only; omega, by dsimp only; omega, by dsimp only; omega, by rw [swp_size]; exact he, hpr.symm⟩ ?_
    clear hpr hgt bj bi hj0 hi0 hee he e i0 j0
    rintro ⟨i1, j1, e⟩ ⟨k1, k2, k3, he, k5⟩
    dsimp only at k1 k2 k3 he k5 ⊢
    obtain ⟨i0, hi0⟩ : ∃ i0, i0 = Sort.scanUp (fun x => Sort.ltInt x e[a]!) e j1 i1 := ⟨_, rfl⟩
    obtain ⟨j0, hj0⟩ : ∃ j0, j0 = Sort.scanDown (fun x => !Sort.ltInt x e[a]!) e i0 j1 := ⟨_, rfl⟩
    have bi := scanUp_ge (fun x => Sort.ltInt x e[a]!) e j1 i1
    have bj := scanDown_le (fun x => !Sort.ltInt x e[a]!) e i0 j1
    rw [← hi0] at bi
    rw [← hj0] at bj
    rw [Sort.partLoop] at k5
    simp only [← hi0, ← hj0] at k5
    refine Q.rn ?_; (repeat (intro b1; refine Q.rn ?_))
    refine swp_cutB (σ := Unit) (fun _ => [(0, SV bk n c), (1, .int .i64 a), (10, .int .i64 i0), (11, .int .i64 j1)]) (fun _ => AR bk e rs :: L) (fun _ => True) ?_ ?_
    · refine swp_loop (σ := Nat) (fun s => [(0, SV bk n c), (1, .int .i64 a), (10, .int .i64 s), (11, .int .i64 j1)]) (fun s => AR bk e rs :: L)
        (fun s => i1 ≤ s ∧ Sort.scanUp (fun x => Sort.ltInt x e[a]!) e j1 s = i0) (fun s => j1 + 1 - s) (i1) ⟨rfl, rfl, rfl, rfl, trivial⟩ (Ent.refl _) ⟨Nat.le_refl _, hi0.symm⟩ ?_
      rintro i ⟨g1, g3⟩
      rw [Sort.scanUp] at g3
      by_cases hi : i ≤ j1
      · refine Q.rn ?_; (repeat (intro b1; refine Q.rn ?_))
        refine Q.dgo [true] [12] [] [0, 1, 2, 3, 4, 5, 6, 7, 8, 9, 10, 11, 12, 13] ?_
        refine Q.rdn ?_; (repeat (intro b1; refine Q.rdn ?_))
        refine D.e rfl rfl rfl ?_
        refine S.guard rfl ?_
        refine S.cr rfl (Less_spec _ _ _) ?_
        rintro _ M ⟨rfl, rfl⟩
        rw [show decide (i ≤ j1) = true by simpa using hi, Bool.true_and] at g3
        cases hl : Sort.ltInt e[i]! e[a]! with
        | true =>
          rw [hl] at g3
          simp only [Bool.not_false, Bool.not_true, if_true] at g3
          refine Q.rn ?_; (repeat (intro b1; refine Q.rn ?_))
          refine Q.rdn ?_; (repeat (intro b1; refine Q.rdn ?_))
          refine Q.rn ?_; (repeat (intro b1; refine Q.rn ?_))
          exact ⟨i + 1, ⟨rfl, rfl, rfl, rfl, trivial⟩, Ent.refl _, ⟨by omega, g3⟩, by omega⟩
        | false =>
          rw [hl] at g3
          simp only [Bool.not_false, Bool.not_true, Bool.false_eq_true, if_false] at g3
          refine Q.rn ?_; (repeat (intro b1; refine Q.rn ?_))
          refine Q.rdn ?_; (repeat (intro b1; refine Q.rdn ?_))
          refine Q.rn ?_; (repeat (intro b1; refine Q.rn ?_))
          exact ⟨(), ⟨rfl, rfl, by rw [g3]; rfl, rfl, trivial⟩, Ent.refl _, trivial⟩
      · rw [show decide (i ≤ j1) = false by simpa using hi, Bool.false_and] at g3
        simp only [Bool.false_eq_true, if_false] at g3
        refine Q.rn ?_; (repeat (intro b1; refine Q.rn ?_))
        refine Q.dgo [true] [12] [] [0, 1, 2, 3, 4, 5, 6, 7, 8, 9, 10, 11, 12, 13] ?_
        refine Q.rdn ?_; (repeat (intro b1; refine Q.rdn ?_))
        refine Q.rn ?_; (repeat (intro b1; refine Q.rn ?_))
        exact ⟨(), ⟨rfl, rfl, by rw [g3]; rfl, rfl, trivial⟩, Ent.refl _, trivial⟩
    rintro _ _
    refine Q.rn ?_; (repeat (intro b1; refine Q.rn ?_))
    refine swp_cutB (σ := Unit) (fun _ => [(0, SV bk n c), (1, .int .i64 a), (10, .int .i64 i0), (11, .int .i64 j0)]) (fun _ => AR bk e rs :: L) (fun _ => True) ?_ ?_
    · refine swp_loop (σ := Nat) (fun s => [(0, SV bk n c), (1, .int .i64 a), (10, .int .i64 i0), (11, .int .i64 s)]) (fun s => AR bk e rs :: L)
        (fun s => s ≤ j1 ∧ Sort.scanDown (fun x => !Sort.ltInt x e[a]!) e i0 s = j0) (fun s => s) (j1) ⟨rfl, rfl, rfl, rfl, trivial⟩ (Ent.refl _) ⟨Nat.le_refl _, hj0.symm⟩ ?_
      rintro j ⟨g1, g3⟩
      by_cases hi : i0 ≤ j
      · obtain ⟨k, rfl⟩ : ∃ k, j = k + 1 := ⟨j - 1, by omega⟩
        rw [Sort.scanDown] at g3
        refine Q.rn ?_; (repeat (intro b1; refine Q.rn ?_))
        refine Q.dgo [true] [12] [] [0, 1, 2, 3, 4, 5, 6, 7, 8, 9, 10, 11, 12, 13, 14] ?_
        refine Q.rdn ?_; (repeat (intro b1; refine Q.rdn ?_))
        refine D.e rfl rfl rfl ?_
        refine S.guard rfl ?_
        refine S.cr rfl (Less_spec _ _ _) ?_
        rintro _ M ⟨rfl, rfl⟩
        rw [show decide (i0 ≤ k + 1) = true by simpa using hi, Bool.true_and] at g3
        cases hl : Sort.ltInt e[k + 1]! e[a]! with
        | false =>
          rw [hl] at g3
          simp only [Bool.not_false, Bool.not_true, if_true] at g3
          refine Q.rn ?_; (repeat (intro b1; refine Q.rn ?_))
          refine Q.rdn ?_; (repeat (intro b1; refine Q.rdn ?_))
          refine Q.rn ?_; (repeat (intro b1; refine Q.rn ?_))
          exact ⟨k, ⟨rfl, rfl, rfl, rfl, trivial⟩, Ent.refl _, ⟨by omega, g3⟩, by omega⟩
        | true =>
          rw [hl] at g3
          simp only [Bool.not_false, Bool.not_true, Bool.false_eq_true, if_false] at g3
          refine Q.rn ?_; (repeat (intro b1; refine Q.rn ?_))
          refine Q.rdn ?_; (repeat (intro b1; refine Q.rdn ?_))
          refine Q.rn ?_; (repeat (intro b1; refine Q.rn ?_))
          exact ⟨(), ⟨rfl, rfl, rfl, by rw [← g3]; rfl, trivial⟩, Ent.refl _, trivial⟩
      · have g4 : j = j0 := by
          rw [← g3]
          cases j with
          | zero => rfl
          | succ j => rw [Sort.scanDown, show decide (i0 ≤ j + 1) = false by simpa using hi]; simp
        refine Q.rn ?_; (repeat (intro b1; refine Q.rn ?_))
        refine Q.dgo [true] [12] [] [0, 1, 2, 3, 4, 5, 6, 7, 8, 9, 10, 11, 12, 13, 14] ?_
        refine Q.rdn ?_; (repeat (intro b1; refine Q.rdn ?_))
        refine Q.rn ?_; (repeat (intro b1; refine Q.rn ?_))
        exact ⟨(), ⟨rfl, rfl, rfl, by rw [g4]; rfl, trivial⟩, Ent.refl _, trivial⟩
    rintro _ _
    by_cases hgt : i0 > j0
    · rw [if_pos hgt] at k5
      subst k5
      refine Q.rn ?_; (repeat (intro b1; refine Q.rn ?_))
      exact ⟨(), ⟨rfl, rfl, rfl, trivial⟩, Ent.refl _, by dsimp only; omega, he⟩
    rw [if_neg hgt, dif_pos (by omega)] at k5
    refine Q.rn ?_; (repeat (intro b1; refine Q.rn ?_))
    refine Q.dgo [true] [13, 15] [13] [0, 1, 2, 3, 4, 5, 6, 7, 8, 9, 10, 11, 12, 13, 14, 15] ?_; (refine Q.rdn ?_; (repeat (intro b1; refine Q.rdn ?_))); refine Q.dc rfl rfl rfl rfl ?_; (refine Q.rn ?_; (repeat (intro b1; refine Q.rn ?_))); (refine Q.rdn ?_; (repeat (intro b1; refine Q.rdn ?_))); refine D.e rfl rfl rfl ?_; (refine Q.rn ?_; (repeat (intro b1; refine Q.rn ?_))); (refine Q.rdn ?_; (repeat (intro b1; refine Q.rdn ?_))); (refine Q.rn ?_; (repeat (intro b1; refine Q.rn ?_)))
    exact ⟨(i0 + 1, j0 - 1, Sort.swp e i0 j0), ⟨rfl, rfl, rfl, rfl, trivial⟩, Ent.refl _, ⟨by dsimp only; omega, by dsimp only; omega, by dsimp only; omega, by rw [swp_size]; exact he, k5⟩, by dsimp only; omega⟩
  rintro _ ⟨hpb, hps⟩
  refine Q.rn ?_; (repeat (intro b1; refine Q.rn ?_))
  refine Q.dgo [true] [13, 15] [13] [0, 1, 2, 3, 4, 5, 6, 7, 8, 9, 10, 11, 12, 13, 14, 15] ?_; (refine Q.rdn ?_; (repeat (intro b1; refine Q.rdn ?_))); refine Q.dc rfl rfl rfl rfl ?_; (refine Q.rn ?_; (repeat (intro b1; refine Q.rn ?_))); (refine Q.rdn ?_; (repeat (intro b1; refine Q.rdn ?_))); refine D.e rfl rfl rfl ?_; (refine Q.rn ?_; (repeat (intro b1; refine Q.rn ?_))); (refine Q.rdn ?_; (repeat (intro b1; refine Q.rdn ?_))); (refine Q.rn ?_; (repeat (intro b1; refine Q.rn ?_)))
  exact N.r2 (RV.tmp rfl (RV.tmp rfl RV.nil)) (Ent.refl _) ⟨rfl, rfl⟩
end Go.Proofs.YtjidejcehmamkaaDoor
