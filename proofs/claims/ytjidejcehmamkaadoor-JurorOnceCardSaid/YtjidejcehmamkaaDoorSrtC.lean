/- slices.Sort's parts at numbers of type uint64, walked: cmp.Less, insertionSort. No condition. -/
import Derived.Test.YtjidejcehmamkaaDoorSxP
import Derived.Test.YtjidejcehmamkaaDoorTy
set_option linter.unusedVariables false
set_option linter.unusedSimpArgs false
namespace Go.Proofs.YtjidejcehmamkaaDoor
open Go Go.SX
attribute [local irreducible] swp opsS thenS blockS retS CallsS St Ent YieldS anyS drawS
attribute [local irreducible] ar
abbrev AR (bk : Nat) (d : Array Int) (rs : List Value) : HP := pt bk (cl (ar .u64 d rs) 30)
abbrev SV (bk n c : Nat) : Value := .slice (some ⟨bk, 0, none⟩) n c
theorem Less_spec (x y : Int) (L : List HP) : CallsS Tryd.prog 84 [.int .u64 x, .int .u64 y] L (fun v L' => v = .bool (Sort.ltInt x y) ∧ L' = L) := by
  have nan : ∀ z, CallsS Tryd.prog 94 [.int .u64 z] L (fun v L' => v = .bool false ∧ L' = L) := fun z => by
    refine CallsS.of_body Tryd.func94 rfl rfl rfl ?_
    refine Q.r ?_; (repeat (intro b1; refine Q.r ?_))
    exact N.r1 (RV.tmp rfl RV.nil) (Ent.refl _) ⟨by simp [packV], rfl⟩
  refine CallsS.of_body Tryd.func84 rfl rfl rfl ?_
  refine Q.r ?_; (repeat (intro b1; refine Q.r ?_))
  refine S.cr rfl (nan x) ?_
  rintro _ _ ⟨rfl, rfl⟩
  refine Q.r ?_; (repeat (intro b1; refine Q.r ?_))
  exact N.r1 (RV.tmp rfl RV.nil) (Ent.refl _) ⟨rfl, rfl⟩
set_option maxHeartbeats 4000000 in
theorem insertionSort_spec (bk n c a b : Nat) (d : Array Int) (rs : List Value) (L : List HP) (hd : d.size = n) (ha : a ≤ n) (hb : b ≤ n) (hn : n ≤ 4611686018427387904) :
    CallsS Tryd.prog 78 [SV bk n c, .int .i64 a, .int .i64 b] (AR bk d rs :: L) (fun v L' => v = .tuple #[] ∧ L' = AR bk (Sort.insertionSort Sort.ltInt d a b) rs :: L) := by
  refine CallsS.of_body Tryd.func78 rfl rfl rfl ?_
  refine Q.rn ?_; (repeat (intro b1; refine Q.rn ?_))
  refine swp_loop (σ := Nat × Array Int) (fun s => [(0, SV bk n c), (1, .int .i64 a), (2, .int .i64 b), (6, .int .i64 s.1)]) (fun s => AR bk s.2 rs :: L)
    (fun s => a + 1 ≤ s.1 ∧ s.1 ≤ n + 1 ∧ s.2.size = n ∧ Sort.insOuter Sort.ltInt a b s.1 s.2 = Sort.insertionSort Sort.ltInt d a b) (fun s => b - s.1) (a + 1, d) ⟨rfl, rfl, rfl, rfl, trivial⟩ (by repeat (first | exact Ent.refl _ | exact Ent.nil | refine Ent.pick ?_ | refine Ent.nilS ?_ | refine Ent.nilM ?_ | refine Ent.drop ?_)) ⟨Nat.le_refl _, by dsimp only; omega, hd, rfl⟩ ?_
  rintro ⟨i, e⟩ ⟨h1, h2, h3, h4⟩
  dsimp only at h1 h2 h3 h4 ⊢
  rw [Sort.insOuter] at h4
  by_cases hi : i < b
  · rw [if_pos hi] at h4
    refine Q.rn ?_; (repeat (intro b1; refine Q.rn ?_))
    refine swp_loop (σ := Nat × Array Int) (fun s => [(0, SV bk n c), (1, .int .i64 a), (2, .int .i64 b), (6, .int .i64 i), (7, .int .i64 s.1)]) (fun s => AR bk s.2 rs :: L)
      (fun s => s.1 ≤ i ∧ s.2.size = n ∧ Sort.insInner Sort.ltInt a s.1 s.2 = Sort.insInner Sort.ltInt a i e) (fun s => s.1) (i, e) ⟨rfl, rfl, rfl, rfl, rfl, trivial⟩ (by repeat (first | exact Ent.refl _ | exact Ent.nil | refine Ent.pick ?_ | refine Ent.nilS ?_ | refine Ent.nilM ?_ | refine Ent.drop ?_)) ⟨Nat.le_refl _, h3, rfl⟩ ?_
    rintro ⟨j, g⟩ ⟨g1, g2, g3⟩
    dsimp only at g1 g2 g3 ⊢
    by_cases hj : a < j
    · obtain ⟨k, rfl⟩ : ∃ k, j = k + 1 := ⟨j - 1, by omega⟩
      rw [Sort.insInner, show decide (k + 1 > a) = true by simpa using hj, Bool.true_and] at g3
      refine Q.rn ?_; (repeat (intro b1; refine Q.rn ?_))
      refine Q.dgo [true] [13] [] [0, 1, 2, 3, 4, 5, 6, 7, 8, 9, 10, 11, 12, 13, 14] ?_
      refine Q.rdn ?_; (repeat (intro b1; refine Q.rdn ?_))
      refine D.e rfl rfl rfl ?_
      refine S.guard rfl ?_
      refine S.cr rfl (Less_spec _ _ _) ?_
      rintro _ M ⟨rfl, rfl⟩
      cases hl : Sort.ltInt g[k + 1]! g[k]! with
      | false =>
        rw [show k + 1 - 1 = k from rfl, hl]
        rw [hl] at g3
        refine Q.rn ?_; (repeat (intro b1; refine Q.rn ?_))
        refine Q.rdn ?_; (repeat (intro b1; refine Q.rdn ?_))
        refine Q.rn ?_; (repeat (intro b1; refine Q.rn ?_))
        refine ⟨(i + 1, g), ⟨rfl, rfl, rfl, rfl, trivial⟩, by repeat (first | exact Ent.refl _ | exact Ent.nil | refine Ent.pick ?_ | refine Ent.nilS ?_ | refine Ent.nilM ?_ | refine Ent.drop ?_), ⟨by dsimp only; omega, by dsimp only; omega, g2, ?_⟩, by dsimp only; omega⟩
        simp only [Bool.false_eq_true, if_false] at g3
        rw [g3]; exact h4
      | true =>
        rw [show k + 1 - 1 = k from rfl, hl]
        rw [hl] at g3
        refine Q.rn ?_; (repeat (intro b1; refine Q.rn ?_))
        refine Q.rdn ?_; (repeat (intro b1; refine Q.rdn ?_))
        refine Q.rn ?_; (repeat (intro b1; refine Q.rn ?_))
        refine Q.dgo [true] [15, 17] [15] [0, 1, 2, 3, 4, 5, 6, 7, 8, 9, 10, 11, 12, 13, 14, 15, 16, 17] ?_
        refine Q.rdn ?_; (repeat (intro b1; refine Q.rdn ?_))
        refine Q.dc rfl rfl rfl rfl ?_
        refine Q.rn ?_; (repeat (intro b1; refine Q.rn ?_))
        refine Q.rdn ?_; (repeat (intro b1; refine Q.rdn ?_))
        refine D.e rfl rfl rfl ?_
        refine Q.rn ?_; (repeat (intro b1; refine Q.rn ?_))
        refine Q.rdn ?_; (repeat (intro b1; refine Q.rdn ?_))
        refine Q.rn ?_; (repeat (intro b1; refine Q.rn ?_))
        simp only [if_true] at g3
        exact ⟨(k, Sort.swp g (k + 1) k), ⟨rfl, rfl, rfl, rfl, rfl, trivial⟩, Ent.refl _, ⟨by dsimp only; omega, by rw [swp_size]; exact g2, g3⟩, by dsimp only; omega⟩
    · have hgg : Sort.insInner Sort.ltInt a j g = g := by
        cases j with
        | zero => rfl
        | succ j => rw [Sort.insInner, show decide (j + 1 > a) = false by simpa using hj]; simp
      rw [hgg] at g3
      refine Q.rn ?_; (repeat (intro b1; refine Q.rn ?_))
      refine Q.dgo [true] [13] [] [0, 1, 2, 3, 4, 5, 6, 7, 8, 9, 10, 11, 12, 13, 14] ?_
      refine Q.rdn ?_; (repeat (intro b1; refine Q.rdn ?_))
      refine Q.rn ?_; (repeat (intro b1; refine Q.rn ?_))
      exact ⟨(i + 1, g), ⟨rfl, rfl, rfl, rfl, trivial⟩, Ent.refl _, ⟨by dsimp only; omega, by dsimp only; omega, g2, by dsimp only; rw [g3]; exact h4⟩, by dsimp only; omega⟩
  · rw [if_neg hi] at h4
    subst h4
    refine Q.rn ?_; (repeat (intro b1; refine Q.rn ?_))
    exact N.n0 RV.nil (Ent.refl _) ⟨rfl, rfl⟩
end Go.Proofs.YtjidejcehmamkaaDoor
/- slices.Sort's parts at numbers of type uint64, walked: siftDown, heapSort. No condition. -/
namespace Go.Proofs.YtjidejcehmamkaaDoor
open Go Go.SX
attribute [local irreducible] swp opsS thenS blockS retS CallsS St Ent YieldS anyS drawS
attribute [local irreducible] ar
set_option maxHeartbeats 8000000 in
theorem siftDown_spec (bk n c lo hi first : Nat) (d : Array Int) (rs : List Value) (L : List HP) (hd : d.size = n) (hlo : lo ≤ hi) (hb : first + hi ≤ n) (hn : n ≤ 17592186044416) :
    CallsS Tryd.prog 89 [SV bk n c, .int .i64 lo, .int .i64 hi, .int .i64 first] (AR bk d rs :: L) (fun v L' => v = .tuple #[] ∧ L' = AR bk (Sort.siftDown Sort.ltInt hi first lo d) rs :: L) := by
  refine CallsS.of_body Tryd.func89 rfl rfl rfl ?_
  refine Q.rn ?_; (repeat (intro b1; refine Q.rn ?_))
  refine swp_loop (σ := Nat × Array Int) (fun s => [(0, SV bk n c), (2, .int .i64 hi), (3, .int .i64 first), (8, .int .i64 s.1)]) (fun s => AR bk s.2 rs :: L)
    (fun s => s.1 ≤ hi ∧ s.2.size = n ∧ Sort.siftDown Sort.ltInt hi first s.1 s.2 = Sort.siftDown Sort.ltInt hi first lo d) (fun s => hi - s.1) (lo, d) ⟨rfl, rfl, rfl, rfl, trivial⟩ (by repeat (first | exact Ent.refl _ | exact Ent.nil | refine Ent.pick ?_ | refine Ent.nilS ?_ | refine Ent.nilM ?_ | refine Ent.drop ?_)) ⟨hlo, hd, rfl⟩ ?_
  rintro ⟨r, e⟩ ⟨h1, h2, h3⟩
  dsimp only at h1 h2 h3 ⊢
  rw [Sort.siftDown] at h3
  by_cases hr : 2 * r + 1 ≥ hi
  · rw [dif_pos hr] at h3
    subst h3
    refine Q.rn ?_; (repeat (intro b1; refine Q.rn ?_))
    exact N.n0 RV.nil (Ent.refl _) ⟨rfl, rfl⟩
  rw [dif_neg hr] at h3
  refine Q.rn ?_; (repeat (intro b1; refine Q.rn ?_))
  refine swp_cutT (σ := Bool) (fun s => [(0, SV bk n c), (2, .int .i64 hi), (3, .int .i64 first), (8, .int .i64 r), (9, .int .i64 (2 * r + 1 : Nat)), (36, .bool s)]) (fun s => AR bk e rs :: L)
    (fun s => s = (decide (2 * r + 1 + 1 < hi) && Sort.ltInt e[first + (2 * r + 1)]! e[first + (2 * r + 1) + 1]!)) ?_ ?_
  · by_cases hc : 2 * r + 1 + 1 < hi
    · refine Q.dgo [true] [18] [] [0, 1, 2, 3, 4, 5, 6, 7, 8, 9, 10, 11, 12, 13, 14, 15, 16, 17, 18, 19] ?_
      refine Q.rdn ?_; (repeat (intro b1; refine Q.rdn ?_))
      refine D.e rfl rfl rfl ?_
      refine S.guard rfl ?_
      refine S.cr rfl (Less_spec _ _ _) ?_
      rintro _ M ⟨rfl, rfl⟩
      refine Q.rn ?_; (repeat (intro b1; refine Q.rn ?_))
      refine Q.rdn ?_; (repeat (intro b1; refine Q.rdn ?_))
      first | refine N.tn ?_ | skip
      exact ⟨_, ⟨rfl, rfl, rfl, rfl, rfl, rfl, trivial⟩, Ent.refl _, by simp [hc]⟩
    · refine Q.dgo [true] [18] [] [0, 1, 2, 3, 4, 5, 6, 7, 8, 9, 10, 11, 12, 13, 14, 15, 16, 17, 18, 19] ?_
      refine Q.rdn ?_; (repeat (intro b1; refine Q.rdn ?_))
      first | refine N.tn ?_ | skip
      exact ⟨false, ⟨rfl, rfl, rfl, rfl, rfl, rfl, trivial⟩, Ent.refl _, by simp [hc]⟩
  intro s hs
  refine swp_cutT (σ := Nat) (fun ch => [(0, SV bk n c), (2, .int .i64 hi), (3, .int .i64 first), (8, .int .i64 r), (9, .int .i64 ch)]) (fun _ => AR bk e rs :: L)
    (fun ch => ch < hi ∧ r < ch ∧ (if (!Sort.ltInt e[first + r]! e[first + ch]!) = true then e else Sort.siftDown Sort.ltInt hi first ch (Sort.swp e (first + r) (first + ch))) = Sort.siftDown Sort.ltInt hi first lo d) ?_ ?_
  · rw [← hs] at h3
    cases s with
    | true =>
      have hc : 2 * r + 1 + 1 < hi := by
        by_cases hc : 2 * r + 1 + 1 < hi
        · exact hc
        · simp [hc] at hs
      rw [if_pos rfl, dif_pos (show 2 * r + 2 < hi from hc)] at h3
      refine Q.rn ?_; (repeat (intro b1; refine Q.rn ?_))
      first | refine N.tn ?_ | skip
      exact ⟨2 * r + 1 + 1, ⟨rfl, rfl, rfl, rfl, rfl, trivial⟩, Ent.refl _, hc, by omega, h3⟩
    | false =>
      simp only [Bool.false_eq_true, if_false] at h3
      refine Q.rn ?_; (repeat (intro b1; refine Q.rn ?_))
      first | refine N.tn ?_ | skip
      exact ⟨2 * r + 1, ⟨rfl, rfl, rfl, rfl, rfl, trivial⟩, Ent.refl _, by omega, by omega, h3⟩
  rintro ch ⟨c1, c2, c3⟩
  clear hs h3
  refine Q.rn ?_; (repeat (intro b1; refine Q.rn ?_))
  refine Q.dgo [true] [12] [] [0, 1, 2, 3, 4, 5, 6, 7, 8, 9, 10, 11, 12, 13] ?_
  refine Q.rdn ?_; (repeat (intro b1; refine Q.rdn ?_))
  refine D.e rfl rfl rfl ?_
  refine S.cr rfl (Less_spec _ _ _) ?_
  rintro _ M ⟨rfl, rfl⟩
  cases hl : Sort.ltInt e[first + r]! e[first + ch]! with
  | false =>
    rw [hl] at c3
    simp only [Bool.not_false, if_true] at c3
    subst c3
    refine Q.rn ?_; (repeat (intro b1; refine Q.rn ?_))
    refine Q.rdn ?_; (repeat (intro b1; refine Q.rdn ?_))
    refine Q.rn ?_; (repeat (intro b1; refine Q.rn ?_))
    exact N.r0 RV.nil (Ent.refl _) ⟨rfl, rfl⟩
  | true =>
    rw [hl] at c3
    simp only [Bool.not_true, Bool.false_eq_true, if_false] at c3
    refine Q.rn ?_; (repeat (intro b1; refine Q.rn ?_))
    refine Q.rdn ?_; (repeat (intro b1; refine Q.rdn ?_))
    refine Q.rn ?_; (repeat (intro b1; refine Q.rn ?_))
    refine Q.dgo [true] [21, 23] [21] [0, 1, 2, 3, 4, 5, 6, 7, 8, 9, 10, 11, 12, 13, 14, 15, 16, 17, 18, 19, 20, 21, 22, 23] ?_
    refine Q.rdn ?_; (repeat (intro b1; refine Q.rdn ?_))
    refine Q.dc rfl rfl rfl rfl ?_
    refine Q.rn ?_; (repeat (intro b1; refine Q.rn ?_))
    refine Q.rdn ?_; (repeat (intro b1; refine Q.rdn ?_))
    refine D.e rfl rfl rfl ?_
    refine Q.rn ?_; (repeat (intro b1; refine Q.rn ?_))
    refine Q.rdn ?_; (repeat (intro b1; refine Q.rdn ?_))
    refine Q.rn ?_; (repeat (intro b1; refine Q.rn ?_))
    exact ⟨(ch, Sort.swp e (first + r) (first + ch)), ⟨rfl, rfl, rfl, rfl, trivial⟩, Ent.refl _, ⟨by dsimp only; omega, by rw [swp_size]; exact h2, c3⟩, by dsimp only; omega⟩
theorem siftDown_size : ∀ (hi first root : Nat) (d : Array Int), (Sort.siftDown Sort.ltInt hi first root d).size = d.size := by
  intro hi first root d
  induction h : hi - root using Nat.strongRecOn generalizing root d with
  | _ k ih =>
    rw [Sort.siftDown]
    split
    · rfl
    · split
      · split
        · rfl
        · split
          · rw [ih _ (by omega) _ _ rfl, swp_size]
          · rfl
      · split
        · rfl
        · rw [ih _ (by omega) _ _ rfl, swp_size]
end Go.Proofs.YtjidejcehmamkaaDoor
/- slices.Sort's parts at numbers of type uint64, walked: heapSort, reverseRange. No condition. -/
namespace Go.Proofs.YtjidejcehmamkaaDoor
open Go Go.SX
attribute [local irreducible] swp opsS thenS blockS retS CallsS St Ent YieldS anyS drawS
attribute [local irreducible] ar
set_option maxHeartbeats 8000000 in
theorem heapSort_spec (bk n c a b : Nat) (d : Array Int) (rs : List Value) (L : List HP) (hd : d.size = n) (ha : a < b) (hb : b ≤ n) (hn : n ≤ 17592186044416) :
    CallsS Tryd.prog 79 [SV bk n c, .int .i64 a, .int .i64 b] (AR bk d rs :: L) (fun v L' => v = .tuple #[] ∧ L' = AR bk (Sort.heapSort Sort.ltInt d a b) rs :: L) := by
  refine CallsS.of_body Tryd.func79 rfl rfl rfl ?_
  refine Q.rn ?_; (repeat (intro b1; refine Q.rn ?_))
  have hsub : ∀ k : Nat, ((k + 1 : Nat) : Int) - 1 = (k : Int) := fun k => by omega
  refine swp_cutB (σ := Array Int) (fun _ => [(0, SV bk n c), (6, .int .i64 a), (7, .int .i64 (0 : Nat)), (8, .int .i64 (b - a : Nat))]) (fun e => AR bk e rs :: L)
    (fun e => e.size = n ∧ e = Sort.heapBuild Sort.ltInt (b - a) a ((b - a - 1) / 2 + 1) d) ?_ ?_
  · refine swp_loop (σ := Nat × Array Int) (fun s => [(0, SV bk n c), (6, .int .i64 a), (7, .int .i64 (0 : Nat)), (8, .int .i64 (b - a : Nat)), (9, .int .i64 ((s.1 : Int) - 1))]) (fun s => AR bk s.2 rs :: L)
      (fun s => s.1 ≤ b - a ∧ s.2.size = n ∧ Sort.heapBuild Sort.ltInt (b - a) a s.1 s.2 = Sort.heapBuild Sort.ltInt (b - a) a ((b - a - 1) / 2 + 1) d) (fun s => s.1) ((b - a - 1) / 2 + 1, d) ⟨rfl, rfl, rfl, rfl, congrArg some (congrArg (Value.int .i64) (by omega)), trivial⟩ (by repeat (first | exact Ent.refl _ | exact Ent.nil | refine Ent.pick ?_ | refine Ent.nilS ?_ | refine Ent.nilM ?_ | refine Ent.drop ?_)) ⟨by dsimp only; omega, hd, rfl⟩ ?_
    rintro ⟨k, e⟩ ⟨h1, h2, h3⟩
    dsimp only at h1 h2 h3 ⊢
    cases k with
    | zero =>
      refine Q.rn ?_; (repeat (intro b1; refine Q.rn ?_))
      exact ⟨e, ⟨rfl, rfl, rfl, rfl, trivial⟩, Ent.refl _, h2, h3⟩
    | succ k =>
      rw [hsub]
      refine Q.rn ?_; (repeat (intro b1; refine Q.rn ?_))
      refine S.cr rfl (siftDown_spec bk n c k (b - a) a e rs L h2 (by omega) (by omega) hn) ?_
      rintro _ _ ⟨rfl, rfl⟩
      refine Q.rn ?_; (repeat (intro b1; refine Q.rn ?_))
      exact ⟨(k, _), ⟨rfl, rfl, rfl, rfl, rfl, trivial⟩, Ent.refl _, ⟨by dsimp only; omega, by rw [siftDown_size]; exact h2, h3⟩, by dsimp only; omega⟩
  rintro e ⟨h2, rfl⟩
  refine Q.rn ?_; (repeat (intro b1; refine Q.rn ?_))
  refine swp_loop (σ := Nat × Array Int) (fun s => [(0, SV bk n c), (6, .int .i64 a), (7, .int .i64 (0 : Nat)), (10, .int .i64 ((s.1 : Int) - 1))]) (fun s => AR bk s.2 rs :: L)
    (fun s => s.1 ≤ b - a ∧ s.2.size = n ∧ Sort.heapPop Sort.ltInt a s.1 s.2 = Sort.heapSort Sort.ltInt d a b) (fun s => s.1) (b - a, Sort.heapBuild Sort.ltInt (b - a) a ((b - a - 1) / 2 + 1) d) ⟨rfl, rfl, rfl, congrArg some (congrArg (Value.int .i64) (by omega)), trivial⟩ (by repeat (first | exact Ent.refl _ | exact Ent.nil | refine Ent.pick ?_ | refine Ent.nilS ?_ | refine Ent.nilM ?_ | refine Ent.drop ?_)) ⟨Nat.le_refl _, h2, rfl⟩ ?_
  clear h2
  rintro ⟨k, e⟩ ⟨h1, h2, h3⟩
  dsimp only at h1 h2 h3 ⊢
  cases k with
  | zero =>
    refine Q.rn ?_; (repeat (intro b1; refine Q.rn ?_))
    exact N.n0 RV.nil (Ent.refl _) ⟨rfl, by rw [← h3]; rfl⟩
  | succ k =>
    rw [hsub]
    refine Q.rn ?_; (repeat (intro b1; refine Q.rn ?_))
    refine Q.dgo [true] [17, 19] [17] [0, 1, 2, 3, 4, 5, 6, 7, 8, 9, 10, 11, 12, 13, 14, 15, 16, 17, 18, 19] ?_
    refine Q.rdn ?_; (repeat (intro b1; refine Q.rdn ?_))
    refine Q.dc rfl rfl rfl rfl ?_
    refine Q.rn ?_; (repeat (intro b1; refine Q.rn ?_))
    refine Q.rdn ?_; (repeat (intro b1; refine Q.rdn ?_))
    refine D.e rfl rfl rfl ?_
    refine Q.rn ?_; (repeat (intro b1; refine Q.rn ?_))
    refine Q.rdn ?_; (repeat (intro b1; refine Q.rdn ?_))
    refine Q.rn ?_; (repeat (intro b1; refine Q.rn ?_))
    refine S.cr rfl (siftDown_spec bk n c 0 k a (Sort.swp e a (a + k)) rs L (by rw [swp_size]; exact h2) (by omega) (by omega) hn) ?_
    rintro _ _ ⟨rfl, rfl⟩
    refine Q.rn ?_; (repeat (intro b1; refine Q.rn ?_))
    exact ⟨(k, _), ⟨rfl, rfl, rfl, rfl, trivial⟩, Ent.refl _, ⟨by dsimp only; omega, by rw [siftDown_size, swp_size]; exact h2, h3⟩, by dsimp only; omega⟩
set_option maxHeartbeats 8000000 in
theorem reverseRange_spec (bk n c a b : Nat) (d : Array Int) (rs : List Value) (L : List HP) (hd : d.size = n) (ha : a < b) (hb : b ≤ n) (hn : n ≤ 17592186044416) :
    CallsS Tryd.prog 82 [SV bk n c, .int .i64 a, .int .i64 b] (AR bk d rs :: L) (fun v L' => v = .tuple #[] ∧ L' = AR bk (Sort.reverseRange d a b) rs :: L) := by
  refine CallsS.of_body Tryd.func82 rfl rfl rfl ?_
  refine Q.rn ?_; (repeat (intro b1; refine Q.rn ?_))
  refine swp_loop (σ := Nat × Nat × Array Int) (fun s => [(0, SV bk n c), (6, .int .i64 s.1), (7, .int .i64 s.2.1)]) (fun s => AR bk s.2.2 rs :: L)
    (fun s => s.1 ≤ b ∧ s.2.1 < b ∧ s.2.2.size = n ∧ Sort.reverseLoop s.1 s.2.1 s.2.2 = Sort.reverseRange d a b) (fun s => s.2.1 - s.1) (a, b - 1, d) ⟨rfl, rfl, rfl, trivial⟩ (by repeat (first | exact Ent.refl _ | exact Ent.nil | refine Ent.pick ?_ | refine Ent.nilS ?_ | refine Ent.nilM ?_ | refine Ent.drop ?_)) ⟨by dsimp only; omega, by dsimp only; omega, hd, rfl⟩ ?_
  rintro ⟨i, j, e⟩ ⟨h1, h2, h3, h4⟩
  dsimp only at h1 h2 h3 h4 ⊢
  rw [Sort.reverseLoop] at h4
  by_cases hij : i < j
  · rw [if_pos hij] at h4
    refine Q.rn ?_; (repeat (intro b1; refine Q.rn ?_))
    refine Q.dgo [true] [13, 15] [13] [0, 1, 2, 3, 4, 5, 6, 7, 8, 9, 10, 11, 12, 13, 14, 15] ?_
    refine Q.rdn ?_; (repeat (intro b1; refine Q.rdn ?_))
    refine Q.dc rfl rfl rfl rfl ?_
    refine Q.rn ?_; (repeat (intro b1; refine Q.rn ?_))
    refine Q.rdn ?_; (repeat (intro b1; refine Q.rdn ?_))
    refine D.e rfl rfl rfl ?_
    refine Q.rn ?_; (repeat (intro b1; refine Q.rn ?_))
    refine Q.rdn ?_; (repeat (intro b1; refine Q.rdn ?_))
    refine Q.rn ?_; (repeat (intro b1; refine Q.rn ?_))
    exact ⟨(i + 1, j - 1, Sort.swp e i j), ⟨rfl, rfl, rfl, trivial⟩, Ent.refl _, ⟨by dsimp only; omega, by dsimp only; omega, by rw [swp_size]; exact h3, h4⟩, by dsimp only; omega⟩
  · rw [if_neg hij] at h4
    subst h4
    refine Q.rn ?_; (repeat (intro b1; refine Q.rn ?_))
    exact N.n0 RV.nil (Ent.refl _) ⟨rfl, rfl⟩
end Go.Proofs.YtjidejcehmamkaaDoor
