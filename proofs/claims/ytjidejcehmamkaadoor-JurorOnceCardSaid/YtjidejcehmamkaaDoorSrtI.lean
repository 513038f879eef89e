/- slices.Sort's parts at numbers of type uint64, walked: the pivot. No condition. -/
import Derived.Test.YtjidejcehmamkaaDoorSrtC
import Derived.Test.YtjidejcehmamkaaDoorSxQ
import Derived.Sort.LotD1
set_option linter.unusedVariables false
set_option linter.unusedSimpArgs false
namespace Go.Proofs.YtjidejcehmamkaaDoor
open Go Go.SX
attribute [local irreducible] swp opsS thenS blockS retS CallsS St Ent YieldS anyS drawS
attribute [local irreducible] ar
abbrev SW (p s : Nat) : HP := pt p (cl [.int .i64 s] 3)
set_option maxHeartbeats 4000000 in
theorem order2_spec (bk n c a b p sw : Nat) (d : Array Int) (rs : List Value) (L : List HP) (hd : d.size = n) (ha : a < n) (hb : b < n) (hn : n ≤ 17592186044416) (hs : sw ≤ 1000000) :
    CallsS Tryd.prog 95 [SV bk n c, .int .i64 a, .int .i64 b, .pointer (some ⟨p, 0, none⟩)] (AR bk d rs :: SW p sw :: L)
      (fun v L' => v = .tuple #[.int .i64 (Sort.order2 Sort.ltInt d a b sw).1, .int .i64 (Sort.order2 Sort.ltInt d a b sw).2.1] ∧ L' = AR bk d rs :: SW p (Sort.order2 Sort.ltInt d a b sw).2.2 :: L) := by
  refine CallsS.of_body Tryd.func95 rfl rfl rfl ?_
  refine Q.rn ?_; (repeat (intro b1; refine Q.rn ?_))
  refine Q.dgo [true, false] [8] [] [0, 1, 2, 3, 4, 5, 6, 7, 8] ?_
  refine Q.rdn ?_; (repeat (intro b1; refine Q.rdn ?_))
  refine D.e rfl rfl rfl ?_
  refine S.cr rfl (Less_spec _ _ _) ?_
  rintro _ M ⟨rfl, rfl⟩
  unfold Sort.order2
  cases hl : Sort.ltInt d[b]! d[a]! with
  | false =>
    refine Q.rn ?_; (repeat (intro b1; refine Q.rn ?_))
    refine Q.rdn ?_; (repeat (intro b1; refine Q.rdn ?_))
    refine Q.rn ?_; (repeat (intro b1; refine Q.rn ?_))
    exact N.r2 (RV.tmp rfl (RV.tmp rfl RV.nil)) (Ent.refl _) ⟨rfl, rfl⟩
  | true =>
    refine Q.rn ?_; (repeat (intro b1; refine Q.rn ?_))
    refine Q.rdn ?_; (repeat (intro b1; refine Q.rdn ?_))
    refine Q.rn ?_; (repeat (intro b1; refine Q.rn ?_))
    exact N.r2 (RV.tmp rfl (RV.tmp rfl RV.nil)) (Ent.refl _) ⟨rfl, rfl⟩
theorem order2_in {n : Nat} {d : Array Int} {a b sw : Nat} (ha : a < n) (hb : b < n) : (Sort.order2 Sort.ltInt d a b sw).1 < n ∧ (Sort.order2 Sort.ltInt d a b sw).2.1 < n ∧ (Sort.order2 Sort.ltInt d a b sw).2.2 ≤ sw + 1 := by
  unfold Sort.order2; split <;> simp_all <;> omega
set_option maxHeartbeats 4000000 in
theorem median_spec (bk n c a b e p sw : Nat) (d : Array Int) (rs : List Value) (L : List HP) (hd : d.size = n) (ha : a < n) (hb : b < n) (he : e < n) (hn : n ≤ 17592186044416) (hs : sw ≤ 1000) :
    CallsS Tryd.prog 93 [SV bk n c, .int .i64 a, .int .i64 b, .int .i64 e, .pointer (some ⟨p, 0, none⟩)] (AR bk d rs :: SW p sw :: L)
      (fun v L' => v = .int .i64 (Sort.median Sort.ltInt d a b e sw).1 ∧ L' = AR bk d rs :: SW p (Sort.median Sort.ltInt d a b e sw).2 :: L) := by
  refine CallsS.of_body Tryd.func93 rfl rfl rfl ?_
  refine Q.rn ?_; (repeat (intro b1; refine Q.rn ?_))
  refine S.cr rfl (order2_spec bk n c a b p sw d rs L hd ha hb hn (by omega)) ?_
  rintro _ _ ⟨rfl, rfl⟩
  have r1 := order2_in (d := d) (sw := sw) ha hb
  unfold Sort.median
  generalize Sort.order2 Sort.ltInt d a b sw = o1 at r1
  refine Q.rn ?_; (repeat (intro b1; refine Q.rn ?_))
  refine S.cr rfl (order2_spec bk n c o1.2.1 e p o1.2.2 d rs L hd r1.2.1 he hn (by omega)) ?_
  rintro _ _ ⟨rfl, rfl⟩
  have r2 := order2_in (d := d) (sw := o1.2.2) r1.2.1 he
  dsimp only
  generalize Sort.order2 Sort.ltInt d o1.2.1 e o1.2.2 = o2 at r2
  refine Q.rn ?_; (repeat (intro b1; refine Q.rn ?_))
  refine S.cr rfl (order2_spec bk n c o1.1 o2.1 p o2.2.2 d rs L hd r1.1 r2.1 hn (by omega)) ?_
  rintro _ _ ⟨rfl, rfl⟩
  refine Q.rn ?_; (repeat (intro b1; refine Q.rn ?_))
  exact N.r1 (RV.tmp rfl RV.nil) (Ent.refl _) ⟨rfl, rfl⟩
theorem median_in {n : Nat} {d : Array Int} {a b e sw : Nat} (ha : a < n) (hb : b < n) (he : e < n) : (Sort.median Sort.ltInt d a b e sw).1 < n ∧ (Sort.median Sort.ltInt d a b e sw).2 ≤ sw + 3 := by
  have r1 := order2_in (d := d) (sw := sw) ha hb
  unfold Sort.median
  generalize Sort.order2 Sort.ltInt d a b sw = o1 at r1
  have r2 := order2_in (d := d) (sw := o1.2.2) r1.2.1 he
  dsimp only
  generalize Sort.order2 Sort.ltInt d o1.2.1 e o1.2.2 = o2 at r2
  have r3 := order2_in (d := d) (sw := o2.2.2) r1.1 r2.1
  omega
set_option maxHeartbeats 4000000 in
theorem medianAdjacent_spec (bk n c a p sw : Nat) (d : Array Int) (rs : List Value) (L : List HP) (hd : d.size = n) (h1 : 1 ≤ a) (ha : a + 1 < n) (hn : n ≤ 17592186044416) (hs : sw ≤ 1000) :
    CallsS Tryd.prog 92 [SV bk n c, .int .i64 a, .pointer (some ⟨p, 0, none⟩)] (AR bk d rs :: SW p sw :: L)
      (fun v L' => v = .int .i64 (Sort.medianAdjacent Sort.ltInt d a sw).1 ∧ L' = AR bk d rs :: SW p (Sort.medianAdjacent Sort.ltInt d a sw).2 :: L) := by
  refine CallsS.of_body Tryd.func92 rfl rfl rfl ?_
  refine Q.rn ?_; (repeat (intro b1; refine Q.rn ?_))
  refine S.cr rfl (median_spec bk n c (a - 1) a (a + 1) p sw d rs L hd (by omega) (by omega) (by omega) hn hs) ?_
  rintro _ _ ⟨rfl, rfl⟩
  refine Q.rn ?_; (repeat (intro b1; refine Q.rn ?_))
  exact N.r1 (RV.tmp rfl RV.nil) (Ent.refl _) ⟨rfl, rfl⟩
def hintN : Sort.Hint → Int
  | .unknown => 0
  | .increasing => 1
  | .decreasing => 2
set_option maxHeartbeats 8000000 in
theorem choosePivot_spec (bk n c a b : Nat) (d : Array Int) (rs : List Value) (L : List HP) (hd : d.size = n) (ha : a < b) (hb : b ≤ n) (hn : n ≤ 17592186044416) :
    CallsS Tryd.prog 81 [SV bk n c, .int .i64 a, .int .i64 b] (AR bk d rs :: L)
      (fun v L' => v = .tuple #[.int .i64 (Sort.choosePivot Sort.ltInt d a b).1, .int .i64 (hintN (Sort.choosePivot Sort.ltInt d a b).2)] ∧ L' = AR bk d rs :: L) := by
  refine CallsS.of_body Tryd.func81 rfl rfl rfl ?_
  refine Q.rn ?_; (repeat (intro b1; refine Q.rn ?_))
  obtain ⟨p, hp⟩ : ∃ p, p = b1 := ⟨_, rfl⟩
  rw [← hp]
  obtain ⟨r, hr⟩ : ∃ r : Nat × Nat, r = (if b - a ≥ 8 then if b - a ≥ 50 then
      Sort.median Sort.ltInt d (Sort.medianAdjacent Sort.ltInt d (a + (b - a) / 4 * 1) 0).1 (Sort.medianAdjacent Sort.ltInt d (a + (b - a) / 4 * 2) (Sort.medianAdjacent Sort.ltInt d (a + (b - a) / 4 * 1) 0).2).1
        (Sort.medianAdjacent Sort.ltInt d (a + (b - a) / 4 * 3) (Sort.medianAdjacent Sort.ltInt d (a + (b - a) / 4 * 2) (Sort.medianAdjacent Sort.ltInt d (a + (b - a) / 4 * 1) 0).2).2).1
        (Sort.medianAdjacent Sort.ltInt d (a + (b - a) / 4 * 3) (Sort.medianAdjacent Sort.ltInt d (a + (b - a) / 4 * 2) (Sort.medianAdjacent Sort.ltInt d (a + (b - a) / 4 * 1) 0).2).2).2
      else Sort.median Sort.ltInt d (a + (b - a) / 4 * 1) (a + (b - a) / 4 * 2) (a + (b - a) / 4 * 3) 0 else (a + (b - a) / 4 * 2, 0)) := ⟨_, rfl⟩
  have hc : Sort.choosePivot Sort.ltInt d a b = (r.1, if r.2 = 0 then .increasing else if r.2 = 12 then .decreasing else .unknown) := by rw [hr]; rfl
  rw [hc]
  clear hc
  refine swp_ent (Ent.perm (.swap _ _ _)) ?_
  refine swp_cutT (σ := Unit) (fun _ => [(11, .int .i64 r.1), (9, .pointer (some ⟨p, 0, none⟩))]) (fun _ => AR bk d rs :: SW p r.2 :: L) (fun _ => True) ?_ ?_
  · by_cases h8 : b - a ≥ 8
    · rw [if_pos h8] at hr
      by_cases h50 : b - a ≥ 50
      · rw [if_pos h50] at hr
        refine Q.rn ?_; (repeat (intro b1; refine Q.rn ?_))
        refine S.cr rfl (medianAdjacent_spec bk n c (a + (b - a) / 4 * 1) p 0 d rs L hd (by omega) (by omega) hn (by omega)) ?_
        rintro _ _ ⟨rfl, rfl⟩
        have q1 : (Sort.medianAdjacent Sort.ltInt d (a + (b - a) / 4 * 1) 0).1 < n ∧ (Sort.medianAdjacent Sort.ltInt d (a + (b - a) / 4 * 1) 0).2 ≤ 0 + 3 := median_in (by omega) (by omega) (by omega)
        generalize Sort.medianAdjacent Sort.ltInt d (a + (b - a) / 4 * 1) 0 = ri at q1 hr
        refine Q.rn ?_; (repeat (intro b1; refine Q.rn ?_))
        refine S.cr rfl (medianAdjacent_spec bk n c (a + (b - a) / 4 * 2) p ri.2 d rs L hd (by omega) (by omega) hn (by omega)) ?_
        rintro _ _ ⟨rfl, rfl⟩
        have q2 : (Sort.medianAdjacent Sort.ltInt d (a + (b - a) / 4 * 2) ri.2).1 < n ∧ (Sort.medianAdjacent Sort.ltInt d (a + (b - a) / 4 * 2) ri.2).2 ≤ ri.2 + 3 := median_in (by omega) (by omega) (by omega)
        generalize Sort.medianAdjacent Sort.ltInt d (a + (b - a) / 4 * 2) ri.2 = rj at q2 hr
        refine Q.rn ?_; (repeat (intro b1; refine Q.rn ?_))
        refine S.cr rfl (medianAdjacent_spec bk n c (a + (b - a) / 4 * 3) p rj.2 d rs L hd (by omega) (by omega) hn (by omega)) ?_
        rintro _ _ ⟨rfl, rfl⟩
        have q3 : (Sort.medianAdjacent Sort.ltInt d (a + (b - a) / 4 * 3) rj.2).1 < n ∧ (Sort.medianAdjacent Sort.ltInt d (a + (b - a) / 4 * 3) rj.2).2 ≤ rj.2 + 3 := median_in (by omega) (by omega) (by omega)
        generalize Sort.medianAdjacent Sort.ltInt d (a + (b - a) / 4 * 3) rj.2 = rk at q3 hr
        refine Q.rn ?_; (repeat (intro b1; refine Q.rn ?_))
        refine S.cr rfl (median_spec bk n c ri.1 rj.1 rk.1 p rk.2 d rs L hd q1.1 q2.1 q3.1 hn (by omega)) ?_
        rintro _ _ ⟨rfl, rfl⟩
        rw [← hr]
        refine Q.rn ?_; (repeat (intro b1; refine Q.rn ?_))
        first | refine N.tn ?_ | skip
        exact ⟨(), ⟨rfl, rfl, trivial⟩, Ent.refl _, trivial⟩
      · rw [if_neg h50] at hr
        refine Q.rn ?_; (repeat (intro b1; refine Q.rn ?_))
        refine S.cr rfl (median_spec bk n c (a + (b - a) / 4 * 1) (a + (b - a) / 4 * 2) (a + (b - a) / 4 * 3) p 0 d rs L hd (by omega) (by omega) (by omega) hn (by omega)) ?_
        rintro _ _ ⟨rfl, rfl⟩
        rw [← hr]
        refine Q.rn ?_; (repeat (intro b1; refine Q.rn ?_))
        first | refine N.tn ?_ | skip
        exact ⟨(), ⟨rfl, rfl, trivial⟩, Ent.refl _, trivial⟩
    · rw [if_neg h8] at hr
      subst hr
      refine Q.rn ?_; (repeat (intro b1; refine Q.rn ?_))
      first | refine N.tn ?_ | skip
      exact ⟨(), ⟨rfl, rfl, trivial⟩, Ent.refl _, trivial⟩
  rintro _ _
  clear hr
  obtain ⟨m, w⟩ := r
  by_cases h0 : w = 0
  · subst h0
    refine Q.rn ?_; (repeat (intro b1; refine Q.rn ?_))
    exact N.r2 (RV.tmp rfl (RV.tmp rfl RV.nil)) (Ent.cons (Ent.drop (Ent.refl _))) ⟨rfl, rfl⟩
  by_cases h12 : w = 12
  · subst h12
    refine Q.rn ?_; (repeat (intro b1; refine Q.rn ?_))
    exact N.r2 (RV.tmp rfl (RV.tmp rfl RV.nil)) (Ent.cons (Ent.drop (Ent.refl _))) ⟨rfl, rfl⟩
  refine Q.rn ?_; (repeat (intro b1; refine Q.rn ?_))
  exact N.r2 (RV.tmp rfl (RV.tmp rfl RV.nil)) (Ent.cons (Ent.drop (Ent.refl _))) ⟨by simp only [if_neg h0, if_neg h12]; rfl, rfl⟩
end Go.Proofs.YtjidejcehmamkaaDoor
/- slices.Sort's parts at numbers of type uint64, walked: bits.Len, breakPatterns. No condition. -/
namespace Go.Proofs.YtjidejcehmamkaaDoor
open Go Go.SX
attribute [local irreducible] swp opsS thenS blockS retS CallsS St Ent YieldS anyS drawS
attribute [local irreducible] ar
set_option maxHeartbeats 4000000 in
theorem Len64_spec (x : Nat) (hx : x < 18446744073709551616) (L : List HP) : CallsS Tryd.prog 88 [.int .u64 x] L (fun v L' => v = .int .i64 (Sort.bitsLen x) ∧ L' = L) := by
  refine CallsS.of_body Tryd.func88 rfl rfl rfl ?_
  have h1 : x < 18446744073709551616 := hx
  have h2 : 0 ≤ 0 := Nat.le_refl _
  have h3 : 0 + Sort.bitsLen x = Sort.bitsLen x := by simp
  obtain ⟨y, hy⟩ : ∃ y, y = x := ⟨_, rfl⟩
  obtain ⟨m, hm⟩ : ∃ m, m = 0 := ⟨_, rfl⟩
  rw [← hy] at h1 ⊢
  rw [← hm] at h2
  have h3 : m + Sort.bitsLen y = Sort.bitsLen y := by omega
  refine Q.rn ?_; (repeat (intro b1; refine Q.rn ?_))
  refine swp_cutT (σ := Nat × Nat) (fun s => [(0, .int .u64 s.1), (2, .int .i64 s.2)]) (fun _ => L) (fun s => s.1 < 4294967296 ∧ s.2 ≤ 32 ∧ s.2 + Sort.bitsLen s.1 = Sort.bitsLen y) ?_ ?_
  · by_cases h : 4294967296 ≤ y
    · have hdv : y / 2 ^ 32 < 4294967296 := by omega
      have hbl : Sort.bitsLen y = 32 + Sort.bitsLen (y / 2 ^ 32) := bitsLen_shift (by omega)
      refine Q.rn ?_; (repeat (intro b1; refine Q.rn ?_))
      refine S.y (Y.shr (a := y) (b := 32) rfl rfl (by decide)) ?_
      generalize y / 2 ^ 32 = z at hdv hbl
      refine Q.rn ?_; (repeat (intro b1; refine Q.rn ?_))
      first | refine N.tn ?_ | skip
      exact ⟨(z, 32), ⟨rfl, rfl, trivial⟩, Ent.refl _, hdv, by dsimp only; omega, by dsimp only; omega⟩
    · refine Q.rn ?_; (repeat (intro b1; refine Q.rn ?_))
      first | refine N.tn ?_ | skip
      exact ⟨(y, 0), ⟨rfl, rfl, trivial⟩, Ent.refl _, by dsimp only; omega, by dsimp only; omega, by simp⟩
  obtain ⟨x, hx2⟩ : ∃ x, x = y := ⟨_, rfl⟩
  rw [← hx2]
  clear h1 h2 h3 hy hm hx2 hx
  rintro ⟨y, m⟩ ⟨h1, h2, h3⟩
  dsimp only at h1 h2 h3 ⊢
  refine Q.rn ?_; (repeat (intro b1; refine Q.rn ?_))
  refine swp_cutT (σ := Nat × Nat) (fun s => [(0, .int .u64 s.1), (2, .int .i64 s.2)]) (fun _ => L) (fun s => s.1 < 65536 ∧ s.2 ≤ 48 ∧ s.2 + Sort.bitsLen s.1 = Sort.bitsLen x) ?_ ?_
  · by_cases h : 65536 ≤ y
    · have hdv : y / 2 ^ 16 < 65536 := by omega
      have hbl : Sort.bitsLen y = 16 + Sort.bitsLen (y / 2 ^ 16) := bitsLen_shift (by omega)
      refine Q.rn ?_; (repeat (intro b1; refine Q.rn ?_))
      refine S.y (Y.shr (a := y) (b := 16) rfl rfl (by decide)) ?_
      generalize y / 2 ^ 16 = z at hdv hbl
      refine Q.rn ?_; (repeat (intro b1; refine Q.rn ?_))
      first | refine N.tn ?_ | skip
      exact ⟨(z, m + 16), ⟨rfl, rfl, trivial⟩, Ent.refl _, hdv, by dsimp only; omega, by dsimp only; omega⟩
    · refine Q.rn ?_; (repeat (intro b1; refine Q.rn ?_))
      first | refine N.tn ?_ | skip
      exact ⟨(y, m), ⟨rfl, rfl, trivial⟩, Ent.refl _, by dsimp only; omega, by dsimp only; omega, h3⟩
  clear h1 h2 h3
  rintro ⟨y, m⟩ ⟨h1, h2, h3⟩
  dsimp only at h1 h2 h3 ⊢
  refine Q.rn ?_; (repeat (intro b1; refine Q.rn ?_))
  refine swp_cutT (σ := Nat × Nat) (fun s => [(0, .int .u64 s.1), (2, .int .i64 s.2)]) (fun _ => L) (fun s => s.1 < 256 ∧ s.2 ≤ 56 ∧ s.2 + Sort.bitsLen s.1 = Sort.bitsLen x) ?_ ?_
  · by_cases h : 256 ≤ y
    · have hdv : y / 2 ^ 8 < 256 := by omega
      have hbl : Sort.bitsLen y = 8 + Sort.bitsLen (y / 2 ^ 8) := bitsLen_shift (by omega)
      refine Q.rn ?_; (repeat (intro b1; refine Q.rn ?_))
      refine S.y (Y.shr (a := y) (b := 8) rfl rfl (by decide)) ?_
      generalize y / 2 ^ 8 = z at hdv hbl
      refine Q.rn ?_; (repeat (intro b1; refine Q.rn ?_))
      first | refine N.tn ?_ | skip
      exact ⟨(z, m + 8), ⟨rfl, rfl, trivial⟩, Ent.refl _, hdv, by dsimp only; omega, by dsimp only; omega⟩
    · refine Q.rn ?_; (repeat (intro b1; refine Q.rn ?_))
      first | refine N.tn ?_ | skip
      exact ⟨(y, m), ⟨rfl, rfl, trivial⟩, Ent.refl _, by dsimp only; omega, by dsimp only; omega, h3⟩
  clear h1 h2 h3
  rintro ⟨y, m⟩ ⟨h1, h2, h3⟩
  dsimp only at h1 h2 h3 ⊢
  refine Q.rn ?_; (repeat (intro b1; refine Q.rn ?_))
  have hy8 : IntKind.u8.wrap (y : Int) = (y : Int) := wrap_u8 (by omega) (by omega)
  refine S.y (Y.cvi rfl) ?_
  rw [hy8]
  have hb8 : Sort.bitsLen y ≤ 8 := by
    have : ∀ y : Nat, y < 256 → Sort.bitsLen y ≤ 8 := by decide +kernel
    exact this y h1
  refine S.y (Y.idx (i := y) (b := UInt8.ofNat (Sort.bitsLen y)) rfl rfl (by clear h2 h3 hy8 hb8 m; revert y; decide +kernel)) ?_
  have e8 : (UInt8.ofNat (Sort.bitsLen y)).toNat = Sort.bitsLen y := by simp; omega
  rw [e8]
  refine S.y (Y.cvi rfl) ?_
  rw [wrap_i64 (by omega) (by omega)]
  refine Q.rn ?_; (repeat (intro b1; refine Q.rn ?_))
  exact N.r1 (RV.tmp rfl RV.nil) (Ent.refl _) ⟨congrArg (Value.int .i64) (by omega), rfl⟩
theorem Len_spec (x : Nat) (hx : x < 18446744073709551616) (L : List HP) : CallsS Tryd.prog 76 [.int .u64 x] L (fun v L' => v = .int .i64 (Sort.bitsLen x) ∧ L' = L) := by
  refine CallsS.of_body Tryd.func76 rfl rfl rfl ?_
  refine Q.rn ?_; (repeat (intro b1; refine Q.rn ?_))
  refine S.cr rfl (Len64_spec x hx L) ?_
  rintro _ _ ⟨rfl, rfl⟩
  refine Q.rn ?_; (repeat (intro b1; refine Q.rn ?_))
  exact N.r1 (RV.tmp rfl RV.nil) (Ent.refl _) ⟨rfl, rfl⟩
theorem npow_spec (x : Nat) (hx : x ≤ 17592186044416) (L : List HP) : CallsS Tryd.prog 90 [.int .i64 x] L (fun v L' => v = .int .u64 ((1 <<< Sort.bitsLen x : Nat) : Int) ∧ L' = L) := by
  have hl : Sort.bitsLen x ≤ 45 := (Sort.bitsLen_le_iff x 45).2 (by omega)
  have hp : 2 ^ Sort.bitsLen x ≤ 2 ^ 45 := Nat.pow_le_pow_right (by omega) hl
  refine CallsS.of_body Tryd.func90 rfl rfl rfl ?_
  refine Q.rn ?_; (repeat (intro b1; refine Q.rn ?_))
  refine S.y (Y.cvi rfl) ?_
  rw [wrap_u64 (by omega) (by omega)]
  refine S.cr rfl (Len_spec x (by omega) L) ?_
  rintro _ _ ⟨rfl, rfl⟩
  refine S.y (Y.shl (a := 1) (b := Sort.bitsLen x) rfl rfl (Nat.le_trans hl (by decide))) ?_
  rw [show 1 * 2 ^ Sort.bitsLen x = 1 <<< Sort.bitsLen x by rw [Nat.one_shiftLeft, Nat.one_mul], wrap_u64 (Int.natCast_nonneg _) (by rw [Nat.one_shiftLeft]; generalize 2 ^ Sort.bitsLen x = q at hp; omega)]
  refine Q.rn ?_; (repeat (intro b1; refine Q.rn ?_))
  exact N.r1 (RV.tmp rfl RV.nil) (Ent.refl _) ⟨rfl, rfl⟩
abbrev RN (p : Nat) (r : UInt64) : HP := pt p (cl [.int .u64 (r.toNat : Int)] 155)
set_option maxHeartbeats 4000000 in
theorem Next_spec (p : Nat) (r : UInt64) (L : List HP) : CallsS Tryd.prog 91 [.pointer (some ⟨p, 0, none⟩)] (RN p r :: L) (fun v L' => v = .int .u64 ((Sort.xorNext r).toNat : Int) ∧ L' = RN p (Sort.xorNext r) :: L) := by
  refine CallsS.of_body Tryd.func91 rfl rfl rfl ?_
  refine Q.rn ?_; (repeat (intro b1; refine Q.rn ?_))
  refine Q.dgo [true] [9] [9] [0, 1, 2, 3, 4, 5, 6, 7, 8, 9] ?_
  (refine Q.rdn ?_; (repeat (intro b1; refine Q.rdn ?_)))
  refine D.yp rfl rfl rfl (Y.shl (a := _) (b := 13) rfl rfl (by decide)) ?_
  rw [shl64 _ 13 (by decide)]
  refine D.yp rfl rfl rfl (Y.xor rfl rfl) ?_
  rw [xor64]
  (refine Q.rdn ?_; (repeat (intro b1; refine Q.rdn ?_)))
  refine Q.dc rfl rfl rfl rfl ?_
  (refine Q.rn ?_; (repeat (intro b1; refine Q.rn ?_)))
  (refine Q.rdn ?_; (repeat (intro b1; refine Q.rdn ?_)))
  (refine Q.rn ?_; (repeat (intro b1; refine Q.rn ?_)))
  refine Q.dgo [true] [9] [9] [0, 1, 2, 3, 4, 5, 6, 7, 8, 9] ?_
  (refine Q.rdn ?_; (repeat (intro b1; refine Q.rdn ?_)))
  refine D.yp rfl rfl rfl (Y.shr (a := _) (b := 7) rfl rfl (by decide)) ?_
  rw [shr64 _ 7 (by decide)]
  refine D.yp rfl rfl rfl (Y.xor rfl rfl) ?_
  rw [xor64]
  (refine Q.rdn ?_; (repeat (intro b1; refine Q.rdn ?_)))
  refine Q.dc rfl rfl rfl rfl ?_
  (refine Q.rn ?_; (repeat (intro b1; refine Q.rn ?_)))
  (refine Q.rdn ?_; (repeat (intro b1; refine Q.rdn ?_)))
  (refine Q.rn ?_; (repeat (intro b1; refine Q.rn ?_)))
  refine Q.dgo [true] [9] [9] [0, 1, 2, 3, 4, 5, 6, 7, 8, 9] ?_
  (refine Q.rdn ?_; (repeat (intro b1; refine Q.rdn ?_)))
  refine D.yp rfl rfl rfl (Y.shl (a := _) (b := 17) rfl rfl (by decide)) ?_
  rw [shl64 _ 17 (by decide)]
  refine D.yp rfl rfl rfl (Y.xor rfl rfl) ?_
  rw [xor64]
  (refine Q.rdn ?_; (repeat (intro b1; refine Q.rdn ?_)))
  refine Q.dc rfl rfl rfl rfl ?_
  (refine Q.rn ?_; (repeat (intro b1; refine Q.rn ?_)))
  (refine Q.rdn ?_; (repeat (intro b1; refine Q.rdn ?_)))
  (refine Q.rn ?_; (repeat (intro b1; refine Q.rn ?_)))
  exact N.r1 (RV.tmp rfl RV.nil) (Ent.refl _) ⟨rfl, rfl⟩
end Go.Proofs.YtjidejcehmamkaaDoor
/- slices.Sort's parts at numbers of type uint64, walked: breakPatterns. No condition. -/
namespace Go.Proofs.YtjidejcehmamkaaDoor
open Go Go.SX
attribute [local irreducible] swp opsS thenS blockS retS CallsS St Ent YieldS anyS drawS
attribute [local irreducible] ar
def bkIt (a l m base : Nat) (d : Array Int) : Nat → UInt64 × Array Int
  | 0 => (UInt64.ofNat l, d)
  | k + 1 => Sort.breakStep a l m (bkIt a l m base d k) (base + k)
theorem bkIt_size (a l m base : Nat) (d : Array Int) : ∀ k, (bkIt a l m base d k).2.size = d.size
  | 0 => rfl
  | k + 1 => by simp only [bkIt, Sort.breakStep, swp_size]; exact bkIt_size a l m base d k
set_option maxHeartbeats 8000000 in
theorem breakPatterns_spec (bk n c a b : Nat) (d : Array Int) (rs : List Value) (L : List HP) (hd : d.size = n) (h8 : a + 8 ≤ b) (hb : b ≤ n) (hn : n ≤ 17592186044416) :
    CallsS Tryd.prog 80 [SV bk n c, .int .i64 a, .int .i64 b] (AR bk d rs :: L) (fun v L' => v = .tuple #[] ∧ L' = AR bk (Sort.breakPatterns d a b) rs :: L) := by
  have hl : Sort.bitsLen (b - a) ≤ 45 := (Sort.bitsLen_le_iff (b - a) 45).2 (by omega)
  have hp : 1 <<< Sort.bitsLen (b - a) ≤ 2 ^ 45 := by rw [Nat.one_shiftLeft]; exact Nat.pow_le_pow_right (by omega) hl
  have hp2 : 1 <<< Sort.bitsLen (b - a) ≤ 2 * (b - a) := by rw [Nat.one_shiftLeft]; exact Sort.two_pow_bitsLen_le (by omega)
  have hp0 : 0 < 1 <<< Sort.bitsLen (b - a) := by rw [Nat.one_shiftLeft]; exact Nat.two_pow_pos _
  have hres : Sort.breakPatterns d a b = (bkIt a (b - a) (1 <<< Sort.bitsLen (b - a)) (a + (b - a) / 4 * 2 - 1) d 3).2 := by
    unfold Sort.breakPatterns
    rw [if_pos (show b - a ≥ 8 by omega)]
    rfl
  rw [hres]
  clear hres
  obtain ⟨md, hmd⟩ : ∃ md, md = 1 <<< Sort.bitsLen (b - a) := ⟨_, rfl⟩
  have hu : IntKind.u64.wrap ((b - a : Nat) : Int) = ((UInt64.ofNat (b - a)).toNat : Int) := by
    rw [wrap_u64 (by omega) (by omega)]; simp; omega
  refine CallsS.of_body Tryd.func80 rfl rfl rfl ?_
  refine Q.rn ?_; (repeat (intro b1; refine Q.rn ?_))
  refine S.y (Y.cvi rfl) ?_
  rw [hu]
  refine Q.rn ?_; (repeat (intro b1; refine Q.rn ?_))
  refine S.cr rfl (npow_spec (b - a) (by omega) _) ?_
  rintro _ _ ⟨rfl, rfl⟩
  rw [← hmd] at hp hp2 hp0 ⊢
  refine Q.rn ?_; (repeat (intro b1; refine Q.rn ?_))
  obtain ⟨base, hbase⟩ : ∃ base, base = a + (b - a) / 4 * 2 - 1 := ⟨_, rfl⟩
  rw [← hbase]
  refine swp_loop (σ := Nat) (fun k => [(0, SV bk n c), (1, .int .i64 a), (6, .int .i64 (b - a : Nat)), (7, .pointer (some ⟨b1, 0, none⟩)), (8, .int .u64 md), (9, .int .i64 (base + k : Nat))])
    (fun k => RN b1 (bkIt a (b - a) md base d k).1 :: AR bk (bkIt a (b - a) md base d k).2 rs :: L) (fun k => k ≤ 3) (fun k => 3 - k) 0 ⟨rfl, rfl, rfl, rfl, rfl, rfl, trivial⟩ (Ent.refl _) (by omega) ?_
  intro k hk
  have hsz := bkIt_size a (b - a) md base d k
  rw [hd] at hsz
  by_cases hk3 : k = 3
  · subst hk3
    refine Q.rn ?_; (repeat (intro b1; refine Q.rn ?_))
    refine N.n0 RV.nil (Ent.drop (Ent.refl _)) ⟨rfl, rfl⟩
  · have hnx : bkIt a (b - a) md base d (k + 1) = Sort.breakStep a (b - a) md (bkIt a (b - a) md base d k) (base + k) := rfl
    have hgoal : ∀ r e, (Sort.xorNext (bkIt a (b - a) md base d k).1) = r → (bkIt a (b - a) md base d k).2 = e → bkIt a (b - a) md base d (k + 1) = (r, Sort.swp e (base + k) (a + (if r.toNat &&& (md - 1) ≥ b - a then (r.toNat &&& (md - 1)) - (b - a) else r.toNat &&& (md - 1)))) := fun r e h1 h2 => by rw [hnx, ← h1, ← h2]; rfl
    refine Q.rn ?_; (repeat (intro b1; refine Q.rn ?_))
    refine S.cr rfl (Next_spec b1 _ _) ?_
    rintro _ _ ⟨rfl, rfl⟩
    generalize hr : Sort.xorNext (bkIt a (b - a) md base d k).1 = r at hgoal
    generalize he : (bkIt a (b - a) md base d k).2 = e at hgoal hsz
    have hg := hgoal r e rfl rfl
    have hand : r.toNat &&& (md - 1) ≤ md - 1 := Nat.and_le_right
    refine Q.rn ?_; (repeat (intro b1; refine Q.rn ?_))
    refine S.y (Y.sub rfl rfl) ?_
    rw [show ((md : Int) - 1) = ((md - 1 : Nat) : Int) by omega, wrap_u64 (by omega) (by omega)]
    refine S.y (Y.and rfl rfl) ?_
    rw [and64 _ _ (by have := r.toNat_lt; omega) (by omega)]
    refine S.y (Y.cvi rfl) ?_
    rw [wrap_i64 (by omega) (by omega)]
    obtain ⟨o, ho⟩ : ∃ o, o = r.toNat &&& (md - 1) := ⟨_, rfl⟩
    rw [← ho] at hand hg ⊢
    by_cases hol : o ≥ b - a
    · rw [if_pos hol] at hg
      refine Q.rn ?_; (repeat (intro b1; refine Q.rn ?_))
      refine Q.dgo [false, true] [17, 19] [17] [0, 1, 2, 3, 4, 5, 6, 7, 8, 9, 10, 11, 12, 13, 14, 15, 16, 17, 18, 19] ?_
      (refine Q.rdn ?_; (repeat (intro b1; refine Q.rdn ?_))); refine Q.dc rfl rfl rfl rfl ?_; (refine Q.rn ?_; (repeat (intro b1; refine Q.rn ?_))); (refine Q.rdn ?_; (repeat (intro b1; refine Q.rdn ?_))); refine D.e rfl rfl rfl ?_; (refine Q.rn ?_; (repeat (intro b1; refine Q.rn ?_))); (refine Q.rdn ?_; (repeat (intro b1; refine Q.rdn ?_))); (refine Q.rn ?_; (repeat (intro b1; refine Q.rn ?_)))
      refine ⟨k + 1, ⟨rfl, rfl, rfl, rfl, rfl, rfl, trivial⟩, ?_, by omega, by omega⟩
      rw [hg]
      exact Ent.perm (.swap _ _ _)
    · rw [if_neg hol] at hg
      refine Q.rn ?_; (repeat (intro b1; refine Q.rn ?_))
      refine Q.dgo [false, true] [17, 19] [17] [0, 1, 2, 3, 4, 5, 6, 7, 8, 9, 10, 11, 12, 13, 14, 15, 16, 17, 18, 19] ?_
      (refine Q.rdn ?_; (repeat (intro b1; refine Q.rdn ?_))); refine Q.dc rfl rfl rfl rfl ?_; (refine Q.rn ?_; (repeat (intro b1; refine Q.rn ?_))); (refine Q.rdn ?_; (repeat (intro b1; refine Q.rdn ?_))); refine D.e rfl rfl rfl ?_; (refine Q.rn ?_; (repeat (intro b1; refine Q.rn ?_))); (refine Q.rdn ?_; (repeat (intro b1; refine Q.rdn ?_))); (refine Q.rn ?_; (repeat (intro b1; refine Q.rn ?_)))
      refine ⟨k + 1, ⟨rfl, rfl, rfl, rfl, rfl, rfl, trivial⟩, ?_, by omega, by omega⟩
      rw [hg]
      exact Ent.perm (.swap _ _ _)
end Go.Proofs.YtjidejcehmamkaaDoor
