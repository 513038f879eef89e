/- slices.Sort, slices.Sorted(maps.Keys(..)) at numbers of type uint64. No condition. -/
import Derived.Test.YtjidejcehmamkaaDoorSrtJ
import Derived.Test.YtjidejcehmamkaaDoorKeys
set_option linter.unusedVariables false
set_option linter.unusedSimpArgs false
namespace Go.Proofs.YtjidejcehmamkaaDoor
open Go Go.SX
attribute [local irreducible] swp opsS thenS blockS retS CallsS St Ent YieldS anyS drawS
def sortL (xs : List Int) : List Int := xs.mergeSort fun x y => decide (x ≤ y)
theorem sortL_perm (xs : List Int) : (sortL xs).Perm xs := List.mergeSort_perm _ _
theorem sortL_len (xs : List Int) : (sortL xs).length = xs.length := (sortL_perm xs).length_eq
theorem sortL_sorted (xs : List Int) : (sortL xs).Pairwise (· ≤ ·) := by
  have := List.pairwise_mergeSort (le := fun x y : Int => decide (x ≤ y)) (fun a b c h1 h2 => by simp at *; omega) (fun a b => by simp; omega) xs
  exact this.imp fun h => by simpa using h
theorem sorted_uniq : ∀ {l1 l2 : List Int}, l1.Perm l2 → l1.Pairwise (· ≤ ·) → l2.Pairwise (· ≤ ·) → l1 = l2
  | [], l2, h, _, _ => by simpa using h
  | x :: l1, [], h, _, _ => by simp at h
  | x :: l1, y :: l2, h, h1, h2 => by
    have hx : x ∈ y :: l2 := h.subset (by simp)
    have hy : y ∈ x :: l1 := h.symm.subset (by simp)
    have e : x = y := by
      rcases List.mem_cons.1 hx with e | hx
      · exact e
      · rcases List.mem_cons.1 hy with e | hy
        · exact e.symm
        · have a := (List.pairwise_cons.1 h2).1 x hx
          have b := (List.pairwise_cons.1 h1).1 y hy
          omega
    subst e
    rw [sorted_uniq ((List.perm_cons x).1 h) (List.pairwise_cons.1 h1).2 (List.pairwise_cons.1 h2).2]
theorem sortL_eq {xs ys : List Int} (h : xs.Perm ys) : sortL xs = sortL ys := sorted_uniq ((sortL_perm xs).trans (h.trans (sortL_perm ys).symm)) (sortL_sorted _) (sortL_sorted _)
theorem insertionSort_zero (sv : Value) (L : List HP) : CallsS Tryd.prog 78 [sv, .int .i64 (0 : Nat), .int .i64 (0 : Nat)] L (fun v L' => v = .tuple #[] ∧ L' = L) := by
  refine CallsS.of_body Tryd.func78 rfl rfl rfl ?_
  refine Q.rn ?_; (repeat (intro b1; refine Q.rn ?_))
  refine swp_loop (σ := Unit) (fun s => [(2, .int .i64 (0 : Nat)), (6, .int .i64 (1 : Nat))]) (fun s => L) (fun s => True) (fun s => 0) () ⟨rfl, rfl, trivial⟩ (Ent.refl _) trivial ?_
  intro _ _
  refine Q.rn ?_; (repeat (intro b1; refine Q.rn ?_))
  exact N.n0 RV.nil (Ent.refl _) ⟨rfl, rfl⟩
theorem pdq_zero (sv : Value) (lim : Nat) (L : List HP) : CallsS Tryd.prog 75 [sv, .int .i64 (0 : Nat), .int .i64 (0 : Nat), .int .i64 lim] L (fun v L' => v = .tuple #[] ∧ L' = L) := by
  refine CallsS.of_body Tryd.func75 rfl rfl rfl ?_
  refine Q.rn ?_; (repeat (intro b1; refine Q.rn ?_))
  refine swp_loop (σ := Unit) (fun s => [(0, sv), (1, .int .i64 (0 : Nat)), (2, .int .i64 (0 : Nat))]) (fun s => L) (fun s => True) (fun s => 0) () ⟨rfl, rfl, rfl, trivial⟩ (Ent.refl _) trivial ?_
  intro _ _
  refine Q.rn ?_; (repeat (intro b1; refine Q.rn ?_))
  refine S.cr rfl (insertionSort_zero _ _) ?_
  rintro _ _ ⟨rfl, rfl⟩
  refine Q.rn ?_; (repeat (intro b1; refine Q.rn ?_))
  exact N.r0 RV.nil (Ent.refl _) ⟨rfl, rfl⟩
theorem ar_toList {k : IntKind} {d : Array Int} {rs : List Value} : ar k d rs = d.toList.map (Value.int k) ++ rs := rfl
set_option maxHeartbeats 2000000 in
theorem Sort_spec (a : Option Addr) (m c : Nat) (xs : List Int) (L : List HP) (hm : m = xs.length) (hn : m ≤ 17592186044416) :
    CallsS Tryd.prog 67 [.slice a m c] (slO 30 1 a m c (xs.map U64) :: L) (fun v L' => v = .tuple #[] ∧ L' = slO 30 1 a m c ((sortL xs).map U64) :: L) := by
  have hu : IntKind.u64.wrap (m : Int) = (m : Int) := wrap_u64 (by omega) (by omega)
  have hl : Sort.bitsLen m ≤ 45 := (Sort.bitsLen_le_iff m 45).2 (by omega)
  by_cases h0 : m = 0
  · have hx : xs = [] := List.eq_nil_of_length_eq_zero (by omega)
    subst hx
    have hs : sortL [] = [] := by simp [sortL]
    rw [hs]
    refine CallsS.of_body Tryd.func67 rfl rfl rfl ?_
    refine Q.rn ?_; (repeat (intro b1; refine Q.rn ?_))
    refine S.y (Y.cvi rfl) ?_
    rw [hu]
    refine Q.rn ?_; (repeat (intro b1; refine Q.rn ?_))
    refine S.cr rfl (Len_spec m (by omega) _) ?_
    rintro _ _ ⟨rfl, rfl⟩
    subst h0
    refine S.cr rfl (pdq_zero _ (Sort.bitsLen 0) _) ?_
    rintro _ _ ⟨rfl, rfl⟩
    refine Q.rn ?_; (repeat (intro b1; refine Q.rn ?_))
    exact N.n0 RV.nil (Ent.refl _) ⟨rfl, rfl⟩
  refine CallsS.slO (by omega) fun b rest ha hmc hlen => ?_
  subst ha
  refine CallsS.of_body Tryd.func67 rfl rfl rfl ?_
  refine Q.rn ?_; (repeat (intro b1; refine Q.rn ?_))
  refine S.y (Y.cvi rfl) ?_
  rw [hu]
  refine Q.rn ?_; (repeat (intro b1; refine Q.rn ?_))
  refine S.cr rfl (Len_spec m (by omega) _) ?_
  rintro _ _ ⟨rfl, rfl⟩
  have hd : xs.toArray.size = m := by simp [hm]
  refine S.cr rfl (pdq_spec b m c rest _ hn m 0 m (Sort.bitsLen m) xs.toArray (by omega) hd (by omega) (Nat.le_refl _) (by omega) (.inl rfl)) ?_
  rintro _ _ ⟨rfl, e, rfl, h1, h2⟩
  have he : e.toList = sortL xs := by
    have := Sort.sorted_unique_holds (lt := Sort.ltInt) Sort.swo_ltInt (fun x y h1 h2 => by simp [Sort.ltInt] at h1 h2; omega) xs.toArray e (by rw [hd]; exact h1) (by rw [hd]; exact h2)
    rw [this]
    unfold sortL
    congr 1
    funext x y
    simp [Sort.ltInt]
    by_cases h : x ≤ y <;> simp [h] <;> omega
  refine Q.rn ?_; (repeat (intro b1; refine Q.rn ?_))
  refine N.n0 RV.nil ?_ ⟨rfl, rfl⟩
  have hen : (ar .u64 e rest) = (sortL xs).map U64 ++ rest := by rw [ar_toList, he]
  unfold AR
  rw [hen]
  exact slO_shut (by simp [sortL_len, hm]) hmc (by simpa [sortL_len] using hlen)
theorem Sorted_spec (gf : FuncId) (lb : List Value) [he : Enters Tryd.prog gf] (ks : List Int) (A A' : List HP) (hk : ks.length ≤ 17592186044416) (hseq : SeqS Tryd.prog gf lb U64 ks.length (fun xs => xs.Perm ks) A A') :
    CallsS Tryd.prog 55 [.func (.func gf) #[] lb.toArray] A (fun v L' => ∃ a c, v = .slice a ks.length c ∧ L' = slO 30 1 a ks.length c ((sortL ks).map U64) :: A') := by
  refine CallsS.of_body Tryd.func55 rfl rfl rfl ?_
  refine Q.r ?_; (repeat (intro b1; refine Q.r ?_))
  refine S.cr rfl (Collect_spec gf lb _ A A' (hseq.mono hk)) ?_
  rintro _ _ ⟨xs, a, c, hp, rfl, rfl⟩
  have hl := hp.length_eq
  refine Q.r ?_; (repeat (intro b1; refine Q.r ?_))
  refine S.cr rfl (Sort_spec a xs.length c xs A' rfl (by omega)) ?_
  rintro _ _ ⟨rfl, rfl⟩
  rw [sortL_eq hp, hl]
  refine Q.r ?_; (repeat (intro b1; refine Q.r ?_))
  exact N.r1 (RV.tmp rfl RV.nil) (Ent.refl _) ⟨a, c, rfl, rfl⟩
end Go.Proofs.YtjidejcehmamkaaDoor
