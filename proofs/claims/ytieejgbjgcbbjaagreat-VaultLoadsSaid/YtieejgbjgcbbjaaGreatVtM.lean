/- The ref's vault: SameOps, Check. No condition. -/
import Derived.Test.YtieejgbjgcbbjaaGreatVtK
import Derived.Test.YtieejgbjgcbbjaaGreatSxU
set_option linter.unusedVariables false
set_option linter.unusedSimpArgs false
namespace Go.Proofs.YtieejgbjgcbbjaaGreat
open Go Go.SX
attribute [local irreducible] swp opsS thenS blockS retS CallsS St Ent YieldS anyS drawS
set_option maxHeartbeats 1000000 in
theorem SameOps_spec (a : Option Addr) (c : Nat) (xs : List OV) (a' : Option Addr) (c' : Nat) (ys : List OV) (A : List HP) (h : RdO A a xs) (h' : RdO A a' ys) (hn : xs.length ≤ 1000000) (hv : ∀ o ∈ xs, o.vec.length ≤ 1000000) (he : xs.map OV.abs = ys.map OV.abs) :
    CallsS Tryz.prog 30 [.slice a xs.length c, .slice a' ys.length c'] A (fun v L' => v = .bool true ∧ L' = A) := by
  have hl : ys.length = xs.length := by
    have := congrArg List.length he
    simp at this; omega
  refine CallsS.of_body Tryz.func30 rfl rfl rfl ?_
  repeat (first | (refine GQ.y ?_; refine Q.y ?_) | refine Q.go ?_ | (refine GQ.g ?_; refine Q.gq ?_) | (refine GQ.s ?_; refine Q.st ?_) | (refine GQ.g ?_; refine Q.gd ?_) | refine Q.ct rfl ?_ | refine Q.cf rfl ?_ | (refine GQ.a ?_; refine Q.al (fun b1 => ?_)))
  refine swp_loop (σ := Nat) (fun k => [(0, .slice a xs.length c), (1, .slice a' ys.length c'), (12, .int .i64 xs.length), (13, .int .i64 k)]) (fun _ => A)
    (fun k => k ≤ xs.length) (fun k => xs.length - k) 0 ⟨rfl, rfl, rfl, rfl, trivial⟩ (Ent.refl _) (by omega) ?_
  intro k hk
  by_cases hlt : k < xs.length
  · obtain ⟨x, hx⟩ := mem_get hlt
    obtain ⟨y, hy⟩ := mem_get (l := ys) (k := k) (by omega)
    have hxy : x.abs = y.abs := by
      have h1 : (xs.map OV.abs)[k]? = some x.abs := by simp [hx]
      have h2 : (ys.map OV.abs)[k]? = some y.abs := by simp [hy]
      rw [he, h2] at h1
      exact (Option.some.inj h1).symm
    have hid : x.id = y.id := congrArg Prod.fst hxy
    have hvc : x.vec = y.vec := congrArg Prod.snd hxy
    have hmx : x ∈ xs := List.mem_of_getElem? hx
    have hmy : y ∈ ys := List.mem_of_getElem? hy
    have hrx := h.2 x hmx
    have hry := h'.2 y hmy
    have hvx := hv x hmx
    obtain ⟨b, o, rfl, hr⟩ := RdS.elem (g := OV.cells) (l := xs) (fun _ => rfl) h.1 hx rfl
    obtain ⟨b', o', rfl, hr'⟩ := RdS.elem (g := OV.cells) (l := ys) (fun _ => rfl) h'.1 hy rfl
    clear hx hy hmx hmy hxy he
    obtain ⟨xi, xa, xc, xv⟩ := x
    obtain ⟨yi, ya, yc, yv⟩ := y
    dsimp only at hid hvc hrx hry hvx
    subst hid hvc
    replace hr : RdC A b (o + k * 2) [.int .u64 xi, .slice xa xv.length xc] := hr
    replace hr' : RdC A b' (o' + k * 2) [.int .u64 xi, .slice ya xv.length yc] := hr'
    repeat (first | (refine GQ.y ?_; refine Q.y ?_) | refine Q.go ?_ | (refine GQ.g ?_; refine Q.gq ?_) | (refine GQ.s ?_; refine Q.st ?_) | (refine GQ.g ?_; refine Q.gd ?_) | refine Q.ct rfl ?_ | refine Q.cf rfl ?_ | (refine GQ.a ?_; refine Q.al (fun b1 => ?_)))
    refine D.start [22] [22] [0, 1, 2, 3, 4, 5, 6, 7, 8, 9, 10, 11, 12, 13, 14, 15, 16, 17, 18, 19, 20, 21, 22, 23, 24] _ [] rfl (by kernel_rfl) rfl (by kernel_rfl) NoPanic.no (Ent.refl _) ?_
    repeat (first | refine Q.dyn rfl rfl rfl ?_ | refine Q.dyl rfl rfl rfl ?_ | refine D.y rfl rfl rfl (by kernel_rfl) (by first | exact (Y.ldRj rfl (by first | assumption | exact RdC.sub (by assumption)) rfl) | exact Y.guard rfl (Y.ldRj rfl (by first | assumption | exact RdC.sub (by assumption)) rfl)) ?_ | refine D.endA ?_ | refine Q.dp rfl rfl rfl ?_ | refine Q.dy rfl rfl rfl ?_ | refine D.end_ ?_ | refine Q.endH ?_ | (refine D.e rfl rfl rfl ?_; (first | refine S.gskip1 rfl ?_ | refine S.gskip rfl ?_ | refine S.y (Y.gskipU rfl) ?_); refine opsS_nil ?_; refine N.tn ?_) | refine Q.dT rfl rfl rfl ?_ | refine Q.dF rfl rfl rfl ?_ | (refine D.e rfl rfl rfl ?_; (first | (refine GQ.a ?_; refine Q.al (fun b1 => ?_)) | (refine GQ.s ?_; refine Q.st ?_)); refine opsS_nil ?_; refine N.tn ?_))
    refine Q.dF rfl rfl rfl ?_ (by simp)
    repeat (first | refine Q.dyn rfl rfl rfl ?_ | refine Q.dyl rfl rfl rfl ?_ | refine D.y rfl rfl rfl (by kernel_rfl) (by first | exact (Y.ldRj rfl (by first | assumption | exact RdC.sub (by assumption)) rfl) | exact Y.guard rfl (Y.ldRj rfl (by first | assumption | exact RdC.sub (by assumption)) rfl)) ?_ | refine D.endA ?_ | refine Q.dp rfl rfl rfl ?_ | refine Q.dy rfl rfl rfl ?_ | refine D.end_ ?_ | refine Q.endH ?_ | (refine D.e rfl rfl rfl ?_; (first | refine S.gskip1 rfl ?_ | refine S.gskip rfl ?_ | refine S.y (Y.gskipU rfl) ?_); refine opsS_nil ?_; refine N.tn ?_) | refine Q.dT rfl rfl rfl ?_ | refine Q.dF rfl rfl rfl ?_ | (refine D.e rfl rfl rfl ?_; (first | (refine GQ.a ?_; refine Q.al (fun b1 => ?_)) | (refine GQ.s ?_; refine Q.st ?_)); refine opsS_nil ?_; refine N.tn ?_))
    refine Q.dc rfl rfl rfl rfl ?_
    rw [List.append_nil]
    refine S.guard rfl ?_
    refine S.cr rfl (SameVec_spec xa xc xv ya yc xv _ hrx.sub hry.sub (by omega)) ?_
    rintro _ _ ⟨rfl, rfl⟩
    repeat (first | (refine GQ.y ?_; refine Q.y ?_) | refine Q.go ?_ | (refine GQ.g ?_; refine Q.gq ?_) | (refine GQ.s ?_; refine Q.st ?_) | (refine GQ.g ?_; refine Q.gd ?_) | refine Q.ct rfl ?_ | refine Q.cf rfl ?_ | (refine GQ.a ?_; refine Q.al (fun b1 => ?_)))
    repeat (first | refine Q.dyn rfl rfl rfl ?_ | refine Q.dyl rfl rfl rfl ?_ | refine D.y rfl rfl rfl (by kernel_rfl) (by first | exact (Y.ldRj rfl (by first | assumption | exact RdC.sub (by assumption)) rfl) | exact Y.guard rfl (Y.ldRj rfl (by first | assumption | exact RdC.sub (by assumption)) rfl)) ?_ | refine D.endA ?_ | refine Q.dp rfl rfl rfl ?_ | refine Q.dy rfl rfl rfl ?_ | refine D.end_ ?_ | refine Q.endH ?_ | (refine D.e rfl rfl rfl ?_; (first | refine S.gskip1 rfl ?_ | refine S.gskip rfl ?_ | refine S.y (Y.gskipU rfl) ?_); refine opsS_nil ?_; refine N.tn ?_) | refine Q.dT rfl rfl rfl ?_ | refine Q.dF rfl rfl rfl ?_ | (refine D.e rfl rfl rfl ?_; (first | (refine GQ.a ?_; refine Q.al (fun b1 => ?_)) | (refine GQ.s ?_; refine Q.st ?_)); refine opsS_nil ?_; refine N.tn ?_))
    repeat (first | (refine GQ.y ?_; refine Q.y ?_) | refine Q.go ?_ | (refine GQ.g ?_; refine Q.gq ?_) | (refine GQ.s ?_; refine Q.st ?_) | (refine GQ.g ?_; refine Q.gd ?_) | refine Q.ct rfl ?_ | refine Q.cf rfl ?_ | (refine GQ.a ?_; refine Q.al (fun b1 => ?_)))
    exact ⟨k + 1, ⟨rfl, rfl, rfl, rfl, trivial⟩, Ent.refl _, by omega, by omega⟩
  · have hke : k = xs.length := by omega
    subst hke
    repeat (first | (refine GQ.y ?_; refine Q.y ?_) | refine Q.go ?_ | (refine GQ.g ?_; refine Q.gq ?_) | (refine GQ.s ?_; refine Q.st ?_) | (refine GQ.g ?_; refine Q.gd ?_) | refine Q.ct rfl ?_ | refine Q.cf rfl ?_ | (refine GQ.a ?_; refine Q.al (fun b1 => ?_)))
    exact N.r1 (RV.tmp rfl RV.nil) (Ent.refl _) ⟨rfl, rfl⟩
set_option maxHeartbeats 2000000 in
theorem RCheck_spec (dim : Int) (a : Option Addr) (c : Nat) (ops : List OV) (A : List HP) (h : RdO A a ops) (hc : ops.length ≤ c) (hn : ops.length ≤ 1000000) (hv : ∀ o ∈ ops, o.vec.length ≤ 1000000) (hd : -9223372036854775808 ≤ dim ∧ dim ≤ 9223372036854775807) :
    CallsS Tryz.prog 62 [.int .i64 dim, .slice a ops.length c] A (fun v L' => v = .int .i64 (checkV dim (ops.map OV.abs)) ∧ L' = A) := by
  unfold checkV
  rw [List.length_map]
  refine CallsS.of_body Tryz.func62 rfl rfl rfl ?_
  by_cases h1 : dim < 1 ∨ 8 < dim
  · rw [if_pos h1]
    by_cases h1a : dim < 1
    · repeat (first | (refine GQ.y ?_; refine Q.y ?_) | refine Q.go ?_ | (refine GQ.g ?_; refine Q.gq ?_) | (refine GQ.s ?_; refine Q.st ?_) | (refine GQ.g ?_; refine Q.gd ?_) | refine Q.ct rfl ?_ | refine Q.cf rfl ?_ | (refine GQ.a ?_; refine Q.al (fun b1 => ?_)))
      exact N.r1 (RV.tmp rfl RV.nil) (Ent.refl _) ⟨rfl, rfl⟩
    · repeat (first | (refine GQ.y ?_; refine Q.y ?_) | refine Q.go ?_ | (refine GQ.g ?_; refine Q.gq ?_) | (refine GQ.s ?_; refine Q.st ?_) | (refine GQ.g ?_; refine Q.gd ?_) | refine Q.ct rfl ?_ | refine Q.cf rfl ?_ | (refine GQ.a ?_; refine Q.al (fun b1 => ?_)))
      exact N.r1 (RV.tmp rfl RV.nil) (Ent.refl _) ⟨rfl, rfl⟩
  rw [if_neg h1]
  by_cases h2 : ops.length = 0
  · rw [if_pos h2]
    repeat (first | (refine GQ.y ?_; refine Q.y ?_) | refine Q.go ?_ | (refine GQ.g ?_; refine Q.gq ?_) | (refine GQ.s ?_; refine Q.st ?_) | (refine GQ.g ?_; refine Q.gd ?_) | refine Q.ct rfl ?_ | refine Q.cf rfl ?_ | (refine GQ.a ?_; refine Q.al (fun b1 => ?_)))
    exact N.r1 (RV.tmp rfl RV.nil) (Ent.refl _) ⟨rfl, rfl⟩
  rw [if_neg h2]
  by_cases h3 : 16 < ops.length
  · rw [if_pos h3]
    repeat (first | (refine GQ.y ?_; refine Q.y ?_) | refine Q.go ?_ | (refine GQ.g ?_; refine Q.gq ?_) | (refine GQ.s ?_; refine Q.st ?_) | (refine GQ.g ?_; refine Q.gd ?_) | refine Q.ct rfl ?_ | refine Q.cf rfl ?_ | (refine GQ.a ?_; refine Q.al (fun b1 => ?_)))
    exact N.r1 (RV.tmp rfl RV.nil) (Ent.refl _) ⟨rfl, rfl⟩
  rw [if_neg h3]
  have hall : (ops.map OV.abs).any (badO dim) = ops.any fun o => badO dim o.abs := by rw [List.any_map]; rfl
  rw [hall]
  repeat (first | (refine GQ.y ?_; refine Q.y ?_) | refine Q.go ?_ | (refine GQ.g ?_; refine Q.gq ?_) | (refine GQ.s ?_; refine Q.st ?_) | (refine GQ.g ?_; refine Q.gd ?_) | refine Q.ct rfl ?_ | refine Q.cf rfl ?_ | (refine GQ.a ?_; refine Q.al (fun b1 => ?_)))
  refine swp_cutB (σ := Unit) (fun _ => [(1, .slice a ops.length c)]) (fun _ => A) (fun _ => (ops.any fun o => badO dim o.abs) = false) ?_ ?_
  · refine swp_loop (σ := Nat) (fun k => [(0, .int .i64 dim), (1, .slice a ops.length c), (23, .slice a ops.length c), (24, .int .i64 ops.length), (25, .int .i64 k)]) (fun _ => A)
      (fun k => k ≤ ops.length ∧ (ops.take k).any (fun o => badO dim o.abs) = false) (fun k => ops.length - k) 0 ⟨rfl, rfl, rfl, rfl, rfl, trivial⟩ (Ent.refl _) ⟨by omega, by simp⟩ ?_
    rintro k ⟨hk, hany⟩
    by_cases hlt : k < ops.length
    · obtain ⟨o, ho⟩ := mem_get hlt
      have hmo : o ∈ ops := List.mem_of_getElem? ho
      have hlen := hv o hmo
      obtain ⟨b2, o2, hia, hr⟩ := RdS.elem (g := OV.cells) (fun _ => rfl) h.1 ho rfl
      rw [hia]
      have hT : badO dim o.abs = true → (ops.any fun o => badO dim o.abs) = true := fun hb => List.any_eq_true.2 ⟨o, hmo, hb⟩
      have hF : badO dim o.abs = false → (ops.take (k + 1)).any (fun o => badO dim o.abs) = false := fun hb => by rw [take_snoc ho, List.any_append, hany, List.any_cons, hb]; rfl
      by_cases c1 : 1099511627776 < o.id
      · rw [hT (by simp [badO, c1])]
        repeat (first | (refine GQ.y ?_; refine Q.y ?_) | refine Q.go ?_ | (refine GQ.g ?_; refine Q.gq ?_) | (refine GQ.s ?_; refine Q.st ?_) | (refine GQ.g ?_; refine Q.gd ?_) | refine Q.ct rfl ?_ | refine Q.cf rfl ?_ | (refine GQ.a ?_; refine Q.al (fun b1 => ?_)))
        exact N.r1 (RV.tmp rfl RV.nil) (by repeat (first | exact Ent.refl _ | exact Ent.nil | refine Ent.pick ?_ | refine Ent.nilS ?_ | refine Ent.nilM ?_ | refine Ent.drop ?_)) ⟨rfl, rfl⟩
      by_cases c2 : 0 < o.vec.length
      · repeat (first | (refine GQ.y ?_; refine Q.y ?_) | refine Q.go ?_ | (refine GQ.g ?_; refine Q.gq ?_) | (refine GQ.s ?_; refine Q.st ?_) | (refine GQ.g ?_; refine Q.gd ?_) | refine Q.ct rfl ?_ | refine Q.cf rfl ?_ | (refine GQ.a ?_; refine Q.al (fun b1 => ?_)))
        refine S.cr rfl (RRight_spec o.a o.c o.vec _ ((h.2 o hmo).sub) (by omega)) ?_
        rintro _ _ ⟨rfl, rfl⟩
        cases hrt : rightV o.vec with
        | false =>
          rw [hT (by simp [badO, c1, c2, hrt])]
          repeat (first | (refine GQ.y ?_; refine Q.y ?_) | refine Q.go ?_ | (refine GQ.g ?_; refine Q.gq ?_) | (refine GQ.s ?_; refine Q.st ?_) | (refine GQ.g ?_; refine Q.gd ?_) | refine Q.ct rfl ?_ | refine Q.cf rfl ?_ | (refine GQ.a ?_; refine Q.al (fun b1 => ?_)))
          exact N.r1 (RV.tmp rfl RV.nil) (by repeat (first | exact Ent.refl _ | exact Ent.nil | refine Ent.pick ?_ | refine Ent.nilS ?_ | refine Ent.nilM ?_ | refine Ent.drop ?_)) ⟨rfl, rfl⟩
        | true =>
          by_cases c3 : (o.vec.length : Int) = dim
          · have := hF (by simp [badO, c1, c2, hrt, c3])
            repeat (first | (refine GQ.y ?_; refine Q.y ?_) | refine Q.go ?_ | (refine GQ.g ?_; refine Q.gq ?_) | (refine GQ.s ?_; refine Q.st ?_) | (refine GQ.g ?_; refine Q.gd ?_) | refine Q.ct rfl ?_ | refine Q.cf rfl ?_ | (refine GQ.a ?_; refine Q.al (fun b1 => ?_)))
            exact ⟨k + 1, ⟨rfl, rfl, rfl, rfl, rfl, trivial⟩, by repeat (first | exact Ent.refl _ | exact Ent.nil | refine Ent.pick ?_ | refine Ent.nilS ?_ | refine Ent.nilM ?_ | refine Ent.drop ?_), ⟨by omega, this⟩, by omega⟩
          · rw [hT (by simp [badO, c1, c2, hrt, c3])]
            repeat (first | (refine GQ.y ?_; refine Q.y ?_) | refine Q.go ?_ | (refine GQ.g ?_; refine Q.gq ?_) | (refine GQ.s ?_; refine Q.st ?_) | (refine GQ.g ?_; refine Q.gd ?_) | refine Q.ct rfl ?_ | refine Q.cf rfl ?_ | (refine GQ.a ?_; refine Q.al (fun b1 => ?_)))
            exact N.r1 (RV.tmp rfl RV.nil) (by repeat (first | exact Ent.refl _ | exact Ent.nil | refine Ent.pick ?_ | refine Ent.nilS ?_ | refine Ent.nilM ?_ | refine Ent.drop ?_)) ⟨rfl, rfl⟩
      · have := hF (by simp [badO, c1, c2])
        repeat (first | (refine GQ.y ?_; refine Q.y ?_) | refine Q.go ?_ | (refine GQ.g ?_; refine Q.gq ?_) | (refine GQ.s ?_; refine Q.st ?_) | (refine GQ.g ?_; refine Q.gd ?_) | refine Q.ct rfl ?_ | refine Q.cf rfl ?_ | (refine GQ.a ?_; refine Q.al (fun b1 => ?_)))
        exact ⟨k + 1, ⟨rfl, rfl, rfl, rfl, rfl, trivial⟩, by repeat (first | exact Ent.refl _ | exact Ent.nil | refine Ent.pick ?_ | refine Ent.nilS ?_ | refine Ent.nilM ?_ | refine Ent.drop ?_), ⟨by omega, this⟩, by omega⟩
    · have hke : k = ops.length := by omega
      subst hke
      rw [List.take_length] at hany
      repeat (first | (refine GQ.y ?_; refine Q.y ?_) | refine Q.go ?_ | (refine GQ.g ?_; refine Q.gq ?_) | (refine GQ.s ?_; refine Q.st ?_) | (refine GQ.g ?_; refine Q.gd ?_) | refine Q.ct rfl ?_ | refine Q.cf rfl ?_ | (refine GQ.a ?_; refine Q.al (fun b1 => ?_)))
      exact ⟨(), ⟨rfl, trivial⟩, Ent.refl _, hany⟩
  intro uu hany
  rw [hany]
  simp only [Bool.false_eq_true, if_false]
  have hmm : (ops.map OV.abs).map (·.1) = ops.map (·.id) := by rw [List.map_map]; rfl
  rw [hmm]
  repeat (first | (refine GQ.y ?_; refine Q.y ?_) | refine Q.go ?_ | (refine GQ.g ?_; refine Q.gq ?_) | (refine GQ.s ?_; refine Q.st ?_) | (refine GQ.g ?_; refine Q.gd ?_) | refine Q.ct rfl ?_ | refine Q.cf rfl ?_ | (refine GQ.a ?_; refine Q.al (fun b1 => ?_)))
  refine swp_loop (σ := Nat) (fun k => [(1, .slice a ops.length c), (52, .slice a ops.length c), (53, .int .i64 ops.length), (54, .int .i64 k)]) (fun _ => A)
    (fun k => k ≤ ops.length ∧ ((ops.take k).map (·.id)).Nodup) (fun k => ops.length - k) 0 ⟨rfl, rfl, rfl, rfl, trivial⟩ (Ent.refl _) ⟨by omega, by simp⟩ ?_
  rintro k ⟨hk, hnd⟩
  by_cases hlt : k < ops.length
  · obtain ⟨o, ho⟩ := mem_get hlt
    obtain ⟨b2, o2, hia, hr⟩ := RdS.elem (g := OV.cells) (fun _ => rfl) h.1 ho rfl
    rw [hia]
    repeat (first | (refine GQ.y ?_; refine Q.y ?_) | refine Q.go ?_ | (refine GQ.g ?_; refine Q.gq ?_) | (refine GQ.s ?_; refine Q.st ?_) | (refine GQ.g ?_; refine Q.gd ?_) | refine Q.ct rfl ?_ | refine Q.cf rfl ?_ | (refine GQ.a ?_; refine Q.al (fun b1 => ?_)))
    refine S.y (Y.slT (h := k) rfl rfl rfl (by omega)) ?_
    repeat (first | (refine GQ.y ?_; refine Q.y ?_) | refine Q.go ?_ | (refine GQ.g ?_; refine Q.gq ?_) | (refine GQ.s ?_; refine Q.st ?_) | (refine GQ.g ?_; refine Q.gd ?_) | refine Q.ct rfl ?_ | refine Q.cf rfl ?_ | (refine GQ.a ?_; refine Q.al (fun b1 => ?_)))
    refine swp_loop (σ := Nat) (fun j => [(1, .slice (some ⟨b2, o2, none⟩) ops.length c), (8, .pointer (some ⟨b1, 0, none⟩)), (52, .slice (some ⟨b2, o2, none⟩) ops.length c), (53, .int .i64 ops.length), (54, .int .i64 k), (61, .slice (some ⟨b2, o2, none⟩) k c), (62, .int .i64 k), (63, .int .i64 j)]) (fun _ => pt b1 (cl o.cells 64) :: A)
        (fun j => j ≤ k ∧ o.id ∉ (ops.take j).map (·.id)) (fun j => k - j) 0 ⟨rfl, rfl, rfl, rfl, rfl, rfl, rfl, rfl, trivial⟩ (Ent.refl _) ⟨by omega, by simp⟩ ?_
    rintro j ⟨hj, hno⟩
    by_cases hjk : j < k
    · obtain ⟨u, hu⟩ := mem_get (l := ops) (k := j) (by omega)
      obtain ⟨b3, o3, hia3, hr3⟩ := RdS.elem (g := OV.cells) (fun _ => rfl) h.1 hu rfl
      rw [hia] at hia3
      cases hia3
      by_cases he : u.id = o.id
      · have hnn : ¬ (ops.map (·.id)).Nodup := fun hh => by
          have h1' : (ops.map (·.id))[j]? = some o.id := by simp [hu, he]
          have h2' : (ops.map (·.id))[k]? = some o.id := by simp [ho]
          have := (List.getElem?_inj (by simp; omega) hh).1 (h1'.trans h2'.symm)
          omega
        rw [if_neg hnn]
        repeat (first | (refine GQ.y ?_; refine Q.y ?_) | refine Q.go ?_ | (refine GQ.g ?_; refine Q.gq ?_) | (refine GQ.s ?_; refine Q.st ?_) | (refine GQ.g ?_; refine Q.gd ?_) | refine Q.ct rfl ?_ | refine Q.cf rfl ?_ | (refine GQ.a ?_; refine Q.al (fun b1 => ?_)))
        exact N.r1 (RV.tmp rfl RV.nil) (by repeat (first | exact Ent.refl _ | exact Ent.nil | refine Ent.pick ?_ | refine Ent.nilS ?_ | refine Ent.nilM ?_ | refine Ent.drop ?_)) ⟨rfl, rfl⟩
      · repeat (first | (refine GQ.y ?_; refine Q.y ?_) | refine Q.go ?_ | (refine GQ.g ?_; refine Q.gq ?_) | (refine GQ.s ?_; refine Q.st ?_) | (refine GQ.g ?_; refine Q.gd ?_) | refine Q.ct rfl ?_ | refine Q.cf rfl ?_ | (refine GQ.a ?_; refine Q.al (fun b1 => ?_)))
        refine ⟨j + 1, ⟨rfl, rfl, rfl, rfl, rfl, rfl, rfl, rfl, trivial⟩, by repeat (first | exact Ent.refl _ | exact Ent.nil | refine Ent.pick ?_ | refine Ent.nilS ?_ | refine Ent.nilM ?_ | refine Ent.drop ?_), ⟨by omega, ?_⟩, by omega⟩
        rw [take_snoc hu, List.map_append]
        intro hm
        rcases List.mem_append.1 hm with hm | hm
        · exact hno hm
        · simp at hm; exact he hm.symm
    · have hke : j = k := by omega
      subst hke
      repeat (first | (refine GQ.y ?_; refine Q.y ?_) | refine Q.go ?_ | (refine GQ.g ?_; refine Q.gq ?_) | (refine GQ.s ?_; refine Q.st ?_) | (refine GQ.g ?_; refine Q.gd ?_) | refine Q.ct rfl ?_ | refine Q.cf rfl ?_ | (refine GQ.a ?_; refine Q.al (fun b1 => ?_)))
      refine ⟨j + 1, ⟨rfl, rfl, rfl, rfl, trivial⟩, by repeat (first | exact Ent.refl _ | exact Ent.nil | refine Ent.pick ?_ | refine Ent.nilS ?_ | refine Ent.nilM ?_ | refine Ent.drop ?_), ⟨by omega, ?_⟩, by omega⟩
      rw [take_snoc ho, List.map_append, List.nodup_append]
      refine ⟨hnd, by simp, fun x hx y hy => ?_⟩
      simp at hy
      subst hy
      exact fun e => hno (e ▸ hx)
  · have hke : k = ops.length := by omega
    subst hke
    rw [List.take_length] at hnd
    rw [if_pos hnd]
    repeat (first | (refine GQ.y ?_; refine Q.y ?_) | refine Q.go ?_ | (refine GQ.g ?_; refine Q.gq ?_) | (refine GQ.s ?_; refine Q.st ?_) | (refine GQ.g ?_; refine Q.gd ?_) | refine Q.ct rfl ?_ | refine Q.cf rfl ?_ | (refine GQ.a ?_; refine Q.al (fun b1 => ?_)))
    exact N.r1 (RV.tmp rfl RV.nil) (Ent.refl _) ⟨rfl, rfl⟩
end Go.Proofs.YtieejgbjgcbbjaaGreat
/- The ref's vault: Lock. No condition. -/
namespace Go.Proofs.YtieejgbjgcbbjaaGreat
open Go Go.SX
attribute [local irreducible] swp opsS thenS blockS retS CallsS St Ent YieldS anyS drawS
theorem ins_split {α : Type} (key : α → Int) (t : Int) : ∀ {l : List α}, (l.map key).Pairwise (· < ·) → l.take (l.filter fun j => decide (key j < t)).length = l.filter (fun j => decide (key j < t)) ∧ l.drop (l.filter fun j => decide (key j < t)).length = l.filter (fun j => !decide (key j < t))
  | [], _ => by simp
  | x :: l, hs => by
    rw [List.map_cons, List.pairwise_cons] at hs
    by_cases h : key x < t
    · have ih := ins_split key t hs.2
      simp only [List.filter_cons, h, decide_true, if_true, Bool.not_true, Bool.false_eq_true, if_false, List.length_cons, List.take_succ_cons, List.drop_succ_cons]
      exact ⟨by rw [ih.1], ih.2⟩
    · have hn : l.filter (fun j => decide (key j < t)) = [] := by
        rw [List.filter_eq_nil_iff]
        intro y hy
        have := hs.1 (key y) (List.mem_map_of_mem hy)
        simp; omega
      have ha : l.filter (fun j => !decide (key j < t)) = l := by
        rw [List.filter_eq_self]
        intro y hy
        have := hs.1 (key y) (List.mem_map_of_mem hy)
        simp; omega
      simp [List.filter_cons, h, hn, ha]
theorem keys_snoc {κ α : Type} [DecidableEq κ] {m : List (κ × α)} (h : keysOK m) {x : κ} (a : α) (hx : lkL m x = none) : keysOK (m ++ [(x, a)]) := by
  have hn := lk_none' hx
  unfold keysOK
  rw [List.map_append, List.nodup_append]
  refine ⟨h, by simp, fun y hy z hz => ?_⟩
  simp at hz
  subst hz
  obtain ⟨u, hu, rfl⟩ := List.mem_map.1 hy
  exact hn u hu
theorem ROK.ins {M : Nat → Option Obj} {st : VS} {a a' : Option Addr} {c c' : Nat} {es : List EV} {is : List IV} (h : ROK M st a c es a' c' is) {M2 : Nat → Option Obj} (hl : leM M M2) {a2 : Option Addr} {c2 : Nat} {nw : IV} (hnw : okI M2 nw) (hx : lkL st.its nw.txn = Option.none) (hnc : ∀ o ∈ nw.ops, o.vec.length ≤ o.c)
    {is2 : List IV} (e : is2 = is.filter (fun j => decide (j.txn < nw.txn)) ++ nw :: is.filter (fun j => !decide (j.txn < nw.txn)))
    (hs : SlM M2 a2 is2.length 3 (is2.flatMap IV.cells)) (hc : is2.length ≤ c2) : ROK M2 { st with its := st.its ++ [nw.abs] } a c es a2 c2 is2 := by
  have hn : ∀ i ∈ is, i.txn ≠ nw.txn := fun i hi e => by
    have := lk_none' hx i.abs (h.its.mem_iff.1 (List.mem_map_of_mem hi))
    exact this e
  have hp : is2.Perm (is ++ [nw]) := by
    rw [e]
    refine List.perm_middle.trans ?_
    refine List.Perm.trans ?_ (List.perm_append_singleton nw is).symm
    exact (List.filter_append_perm _ _).cons _
  refine ⟨h.ch, h.cs, ?_, ?_, fun e he => (h.oe e he).mono hl, fun i hi => ?_, h.sE.mono hl, hs, h.cE, hc, h.k1, keys_snoc h.k2 _ hx, fun i hi => ?_⟩
  · refine (hp.map _).trans ?_
    rw [List.map_append]
    exact h.its.append_right _
  · rw [e, List.map_append, List.map_cons, List.pairwise_append]
    refine ⟨pw_filter h.ss _, List.pairwise_cons.2 ⟨fun y hy => ?_, pw_filter h.ss _⟩, fun x hx y hy => ?_⟩
    · obtain ⟨u, hu, rfl⟩ := List.mem_map.1 hy
      have h1 := (List.mem_filter.1 hu).2
      have h2 := hn u (List.mem_filter.1 hu).1
      simp at h1; omega
    · obtain ⟨u, hu, rfl⟩ := List.mem_map.1 hx
      have h1 := (List.mem_filter.1 hu).2
      simp at h1
      rcases List.mem_cons.1 hy with rfl | hy
      · exact h1
      · obtain ⟨w, hw, rfl⟩ := List.mem_map.1 hy
        have h3 := (List.mem_filter.1 hw).2
        simp at h3; omega
  · rcases List.mem_append.1 (hp.mem_iff.1 hi) with hi | hi
    · exact (h.oi i hi).mono hl
    · obtain rfl := List.mem_singleton.1 hi
      exact hnw
  · rcases List.mem_append.1 (hp.mem_iff.1 hi) with hi | hi
    · exact h.oc i hi
    · obtain rfl := List.mem_singleton.1 hi
      exact hnc
theorem vecs_abs2 {L L0 : List HP} {M : Nat → Option Obj} [hp : PickM L M L0] : ∀ us : List OV, Ent (vecsH us :: L) (exH (fun M' => allH [pureH (leM M M' ∧ okR M' us ∧ ∀ o ∈ us, o.vec.length ≤ o.c), roM M']) :: L0) := by
  intro us
  induction us generalizing M L with
  | nil =>
    refine Ent.drop (hp.ent.trans ?_)
    refine Ent.trans ?_ (Ent.shut_ex M)
    refine Ent.trans ?_ Ent.shut_all
    exact Ent.shut_pure ⟨leM.refl M, fun o ho => by (cases ho), fun o ho => by (cases ho)⟩
  | cons o us ih =>
    have h1 : Ent (vecsH (o :: us) :: L) (slO 21 1 o.a o.vec.length o.c (o.vec.map I32) :: vecsH us :: L) := by
      unfold vecsH
      exact bodV_out' (p := []) (by simp)
    refine h1.trans (slO_cap.trans (Ent.pure fun hc => ?_))
    have hp2 : PickM (vecsH us :: L) M (vecsH us :: L0) := inferInstance
    refine (Ent.absorb (h := hp2)).trans ?_
    refine Ent.ex fun M1 => Ent.open_all.trans (Ent.pure fun hs => ?_)
    refine Ent.trans (Ent.perm (.swap _ _ _)) ?_
    refine (ih (M := M1) (L := roM M1 :: L0) (hp := inferInstance)).trans ?_
    refine Ent.ex fun M2 => Ent.open_all.trans (Ent.pure fun hs2 => ?_)
    refine Ent.trans ?_ (Ent.shut_ex M2)
    refine Ent.trans ?_ Ent.shut_all
    refine Ent.shut_pure ⟨hs.1.trans hs2.1, fun u hu => ?_, fun u hu => ?_⟩
    · rcases List.mem_cons.1 hu with rfl | hu
      · exact hs.2.mono hs2.1
      · exact hs2.2.1 u hu
    · rcases List.mem_cons.1 hu with rfl | hu
      · exact hc
      · exact hs2.2.2 u hu
theorem swp_absVc (us : List OV) {n : Nat} {cd : Code} {Q : Post} {f : Env} {L L0 L1 : List HP} {M : Nat → Option Obj} [h : Pick (vecsH us) L L0] [h1 : PickM L0 M L1] (hk : ∀ M', leM M M' → okR M' us → (∀ o ∈ us, o.vec.length ≤ o.c) → swp Tryz.prog n cd Q f (roM M' :: L1)) : swp Tryz.prog n cd Q f L :=
  swp_ent (h.ent.trans (vecs_abs2 us)) (swp_ex fun M' => swp_all (swp_pure fun hh => hk M' hh.1 hh.2.1 hh.2.2))
theorem few_id {k : Nat} {l : VL} (h : l.length ≤ k) (hv : ∀ o ∈ l, o.2.length ≤ 10) : fewV k l = l := by
  rw [fewV_all h]
  conv => rhs; rw [← List.map_id l]
  exact List.map_congr_left fun o ho => by rw [List.take_of_length_le (hv o ho)]; rfl
theorem check_ok {dim : Int} {ops : VL} (h : checkV dim ops = 0) : 1 ≤ dim ∧ dim ≤ 8 ∧ 1 ≤ ops.length ∧ ops.length ≤ 16 ∧ (ops.map (·.1)).Nodup ∧ ∀ o ∈ ops, o.2.length ≤ 8 ∧ (0 < o.2.length → rightV o.2 = true) := by
  unfold checkV at h
  by_cases h1 : dim < 1 ∨ 8 < dim
  · rw [if_pos h1] at h; cases h
  rw [if_neg h1] at h
  by_cases h3 : ops.length = 0
  · rw [if_pos h3] at h; cases h
  rw [if_neg h3] at h
  by_cases h4 : 16 < ops.length
  · rw [if_pos h4] at h; cases h
  rw [if_neg h4] at h
  by_cases h5 : ops.any (badO dim) = true
  · rw [if_pos h5] at h; cases h
  rw [if_neg h5] at h
  by_cases h6 : (ops.map (·.1)).Nodup
  · refine ⟨by omega, by omega, by omega, by omega, h6, fun o ho => ?_⟩
    have hb : badO dim o = false := by
      cases hb : badO dim o with
      | false => rfl
      | true => exact absurd (List.any_eq_true.2 ⟨o, ho, hb⟩) h5
    unfold badO at hb
    simp only [Bool.or_eq_false_iff, Bool.and_eq_false_iff, decide_eq_false_iff_not, Bool.not_eq_false', Decidable.not_not] at hb
    obtain ⟨_, hb⟩ := hb
    rcases hb with hb | hb
    · exact ⟨by omega, fun h => absurd h hb⟩
    · exact ⟨by omega, fun _ => hb.1⟩
  · rw [if_neg h6] at h; cases h
def subA (a : Option Addr) (c l sz : Nat) : Option Addr := if l = 0 then a else a.map fun ad => ⟨ad.block, if c = l then ad.off else ad.off + l * sz, ad.spot⟩
section
variable {P : Program} {n : Nat} {ops : List Oper} {f : Env} {A : List HP} {d : Tmp} {ty : TypeId} {pos : String} {af : Array Edge}
theorem Y.slFa {x lo : Operand} {t e : TypeId} {a : Option Addr} {m c sz bts l : Nat} {ag : Bool} {zs : List Value} {i : Int} {kl : IntKind} [hs : SlTy P t e] [h2 : Ty P e ag sz zs bts] (hx : ev f x = some (.slice a m c))
    (hl : ev f lo = some (.int kl i)) (el : i = (l : Int)) (h1 : l ≤ m) (ha : m = 0 ∨ ∃ b o, a = some ⟨b, o, none⟩) : YieldS P n ops ⟨some d, .slice t x (some lo) none none, ty, pos, af, none⟩ f A (.slice (subA a c l sz) (m - l) (c - l)) := by
  by_cases h0 : l = 0
  · subst h0
    unfold subA
    rw [if_pos rfl, Nat.sub_zero, Nat.sub_zero]
    cases a with
    | none =>
      rcases ha with rfl | ⟨b, o, h⟩
      · exact Y.slFn (hs := hs) (h2 := h2) hx hl el
      · cases h
    | some ad =>
      refine Y.of (fun ac w s => ?_)
      subst el
      have e1 : ∀ ad : Addr, ad.add 0 = ad := fun _ => rfl
      by_cases hc : c = 0 <;> simp [execOp, s.eval hx, s.eval hl, Instr.sliceAt, hs.und, Instr.slice, Instr.sliceBounds, h2.size, Instr.sliceBound, asIntOf, hc, e1]
  · rcases ha with rfl | ⟨b, o, rfl⟩
    · omega
    · unfold subA
      rw [if_neg h0]
      exact Y.slF (hs := hs) (h2 := h2) hx hl el h1
end
theorem RdS.fromA {L : List HP} {a : Option Addr} {m c l sz : Nat} {cs : List Value} (h : RdS L a m sz cs) (h1 : l ≤ m) (h2 : m ≤ c) : RdS L (subA a c l sz) (m - l) sz (cs.drop (l * sz)) := by
  by_cases h0 : l = 0
  · subst h0
    unfold subA
    rw [if_pos rfl, Nat.zero_mul, List.drop_zero]
    exact h
  · obtain ⟨b, o, rfl⟩ : ∃ b o, a = some ⟨b, o, none⟩ := by
      rcases h.2 with h3 | ⟨b, o, h3, _⟩
      · omega
      · exact ⟨b, o, h3⟩
    unfold subA
    rw [if_neg h0]
    exact RdS.from2 h h1 h2
theorem SlM.at {M : Nat → Option Obj} {a : Option Addr} {m sz : Nat} {cs : List Value} (h : SlM M a m sz cs) : m = 0 ∨ ∃ b o, a = some ⟨b, o, none⟩ := by
  have := h.rd (L := [roM M])
  rcases this.2 with h3 | ⟨b, o, h3, _⟩
  · exact .inl h3
  · exact .inr ⟨b, o, h3⟩
set_option maxHeartbeats 4000000 in
theorem RLock_spec (p : Nat) (st : VS) (n : Nat) (i : IV) (L : List HP) (hw : WF st n) (hn : n ≤ 10000) (h : RdO L i.a i.ops) (hic : i.ops.length ≤ i.c) (hc : ∀ o ∈ i.ops, o.vec.length ≤ o.c) (hil : i.ops.length ≤ 1000000) (hv : ∀ o ∈ i.ops, o.vec.length ≤ 1000000) :
    CallsS Tryz.prog 29 [ptrV p, i.val] (refH p st :: L) (fun r L' => r = .int .i64 (lockE st i.txn i.after (i.ops.map OV.abs)) ∧ L' = refH p (lockS st i.txn i.after (i.ops.map OV.abs)) :: L) := by
  have hst : ∀ e, lockE st i.txn i.after (i.ops.map OV.abs) = e → e ≠ 0 → lockS st i.txn i.after (i.ops.map OV.abs) = st := fun e h1 h2 => by unfold lockS; rw [if_neg (by rw [h1]; exact h2)]
  refine calls_ref fun M a c es a' c' is hok => ?_
  have hlen : is.length ≤ n := by rw [hok.len.1]; exact hw.il
  refine CallsS.of_body Tryz.func29 rfl rfl rfl ?_
  by_cases h1 : 1099511627776 < i.after
  · have hE : lockE st i.txn i.after (i.ops.map OV.abs) = 1 := by unfold lockE; rw [if_pos h1]
    rw [hst _ hE (by decide), hE]
    repeat (first | (refine GQ.y ?_; refine Q.y ?_) | refine Q.go ?_ | (refine GQ.g ?_; refine Q.gq ?_) | (refine GQ.s ?_; refine Q.st ?_) | (refine GQ.g ?_; refine Q.gd ?_) | refine Q.ct rfl ?_ | refine Q.cf rfl ?_ | (refine GQ.a ?_; refine Q.al (fun b1 => ?_)))
    refine N.r1 (RV.tmp rfl RV.nil) ?_ ⟨rfl, rfl⟩
    refine Ent.trans ?_ (ref_shut hok)
    repeat (first | exact Ent.refl _ | exact Ent.nil | refine Ent.pick ?_ | refine Ent.nilS ?_ | refine Ent.nilM ?_ | refine Ent.drop ?_)
  repeat (first | (refine GQ.y ?_; refine Q.y ?_) | refine Q.go ?_ | (refine GQ.g ?_; refine Q.gq ?_) | (refine GQ.s ?_; refine Q.st ?_) | (refine GQ.g ?_; refine Q.gd ?_) | refine Q.ct rfl ?_ | refine Q.cf rfl ?_ | (refine GQ.a ?_; refine Q.al (fun b1 => ?_)))
  refine Q.dgo [true, true, false] [6] [] [0, 1, 2, 3, 4, 5, 6, 7] ?_
  repeat (first | refine D.endA ?_ | refine Q.dy rfl rfl rfl ?_ | refine Q.dp rfl rfl rfl ?_ | refine D.end_ ?_ | refine Q.endH ?_ | (refine D.e rfl rfl rfl ?_; (first | refine S.gskip1 rfl ?_ | refine S.gskip rfl ?_ | refine S.y (Y.gskipU rfl) ?_); refine opsS_nil ?_; refine N.tn ?_) | refine Q.dT rfl rfl rfl ?_ | refine Q.dF rfl rfl rfl ?_ | (refine D.e rfl rfl rfl ?_; (first | (refine GQ.a ?_; refine Q.al (fun b1 => ?_)) | (refine GQ.s ?_; refine Q.st ?_)); refine opsS_nil ?_; refine N.tn ?_))
  refine D.e rfl rfl rfl ?_
  refine S.cr rfl (RCheck_spec st.dim i.a i.c i.ops _ h.sub hic hil hv (by have := hw.d1; have := hw.d2; omega)) ?_
  rintro _ _ ⟨rfl, rfl⟩
  by_cases h2 : checkV st.dim (i.ops.map OV.abs) ≠ 0
  · have hE : lockE st i.txn i.after (i.ops.map OV.abs) = checkV st.dim (i.ops.map OV.abs) := by unfold lockE; rw [if_neg h1, if_pos h2]
    rw [hst _ hE h2, hE]
    generalize checkV st.dim (i.ops.map OV.abs) = ce at h2 ⊢
    repeat (first | (refine GQ.y ?_; refine Q.y ?_) | refine Q.go ?_ | (refine GQ.g ?_; refine Q.gq ?_) | (refine GQ.s ?_; refine Q.st ?_) | (refine GQ.g ?_; refine Q.gd ?_) | refine Q.ct rfl ?_ | refine Q.cf rfl ?_ | (refine GQ.a ?_; refine Q.al (fun b1 => ?_)))
    repeat (first | refine D.endA ?_ | refine Q.dy rfl rfl rfl ?_ | refine Q.dp rfl rfl rfl ?_ | refine D.end_ ?_ | refine Q.endH ?_ | (refine D.e rfl rfl rfl ?_; (first | refine S.gskip1 rfl ?_ | refine S.gskip rfl ?_ | refine S.y (Y.gskipU rfl) ?_); refine opsS_nil ?_; refine N.tn ?_) | refine Q.dT rfl rfl rfl ?_ | refine Q.dF rfl rfl rfl ?_ | (refine D.e rfl rfl rfl ?_; (first | (refine GQ.a ?_; refine Q.al (fun b1 => ?_)) | (refine GQ.s ?_; refine Q.st ?_)); refine opsS_nil ?_; refine N.tn ?_))
    repeat (first | (refine GQ.y ?_; refine Q.y ?_) | refine Q.go ?_ | (refine GQ.g ?_; refine Q.gq ?_) | (refine GQ.s ?_; refine Q.st ?_) | (refine GQ.g ?_; refine Q.gd ?_) | refine Q.ct rfl ?_ | refine Q.cf rfl ?_ | (refine GQ.a ?_; refine Q.al (fun b1 => ?_)))
    refine N.r1 (RV.tmp rfl RV.nil) ?_ ⟨rfl, rfl⟩
    refine Ent.trans ?_ (ref_shut hok)
    repeat (first | exact Ent.refl _ | exact Ent.nil | refine Ent.pick ?_ | refine Ent.nilS ?_ | refine Ent.nilM ?_ | refine Ent.drop ?_)
  have h2' : checkV st.dim (i.ops.map OV.abs) = 0 := Decidable.not_not.1 h2
  obtain ⟨kd1, kd2, k1, k2, k3, k4⟩ := check_ok h2'
  rw [h2']
  repeat (first | (refine GQ.y ?_; refine Q.y ?_) | refine Q.go ?_ | (refine GQ.g ?_; refine Q.gq ?_) | (refine GQ.s ?_; refine Q.st ?_) | (refine GQ.g ?_; refine Q.gd ?_) | refine Q.ct rfl ?_ | refine Q.cf rfl ?_ | (refine GQ.a ?_; refine Q.al (fun b1 => ?_)))
  repeat (first | refine D.endA ?_ | refine Q.dy rfl rfl rfl ?_ | refine Q.dp rfl rfl rfl ?_ | refine D.end_ ?_ | refine Q.endH ?_ | (refine D.e rfl rfl rfl ?_; (first | refine S.gskip1 rfl ?_ | refine S.gskip rfl ?_ | refine S.y (Y.gskipU rfl) ?_); refine opsS_nil ?_; refine N.tn ?_) | refine Q.dT rfl rfl rfl ?_ | refine Q.dF rfl rfl rfl ?_ | (refine D.e rfl rfl rfl ?_; (first | (refine GQ.a ?_; refine Q.al (fun b1 => ?_)) | (refine GQ.s ?_; refine Q.st ?_)); refine opsS_nil ?_; refine N.tn ?_))
  repeat (first | (refine GQ.y ?_; refine Q.y ?_) | refine Q.go ?_ | (refine GQ.g ?_; refine Q.gq ?_) | (refine GQ.s ?_; refine Q.st ?_) | (refine GQ.g ?_; refine Q.gd ?_) | refine Q.ct rfl ?_ | refine Q.cf rfl ?_ | (refine GQ.a ?_; refine Q.al (fun b1 => ?_)))
  refine opsS_ent (L' := rP p st.dim a es c a' is c' st.mark :: roM M :: pt b1 (cl [.int .u64 i.txn, .int .u64 i.after, .slice i.a i.ops.length i.c] 50) :: L) (by repeat (first | exact Ent.refl _ | exact Ent.nil | refine Ent.pick ?_ | refine Ent.nilS ?_ | refine Ent.nilM ?_ | refine Ent.drop ?_)) ?_
  refine S.cr rfl (Find_spec p st.dim a es c a' is c' st.mark i.txn M _ hok.sI (by omega)) ?_
  rintro _ _ ⟨⟨k, j, rfl, hj, hjt⟩ | ⟨rfl, hno⟩, rfl⟩
  · have hl := hok.hasT hj
    rw [hjt] at hl
    have hE : lockE st i.txn i.after (i.ops.map OV.abs) = 7 := by unfold lockE; rw [if_neg h1, if_neg h2, hl]; rfl
    rw [hst _ hE (by decide), hE]
    repeat (first | (refine GQ.y ?_; refine Q.y ?_) | refine Q.go ?_ | (refine GQ.g ?_; refine Q.gq ?_) | (refine GQ.s ?_; refine Q.st ?_) | (refine GQ.g ?_; refine Q.gd ?_) | refine Q.ct rfl ?_ | refine Q.cf rfl ?_ | (refine GQ.a ?_; refine Q.al (fun b1 => ?_)))
    refine N.r1 (RV.tmp rfl RV.nil) ?_ ⟨rfl, rfl⟩
    refine Ent.trans ?_ (ref_shut hok)
    repeat (first | exact Ent.refl _ | exact Ent.nil | refine Ent.pick ?_ | refine Ent.nilS ?_ | refine Ent.nilM ?_ | refine Ent.drop ?_)
  have hno' := hok.noT hno
  have hE1 : lockE st i.txn i.after (i.ops.map OV.abs) = if i.ops.any (fun o => st.its.any fun i => holdsV i.2.2 o.id) then 11 else 0 := by
    unfold lockE; rw [if_neg h1, if_neg h2, hno', List.any_map]; rfl
  have hst0 : lockE st i.txn i.after (i.ops.map OV.abs) = 0 → lockS st i.txn i.after (i.ops.map OV.abs) = { st with its := st.its ++ [(i.txn, i.after, i.ops.map OV.abs)] } := fun h => by unfold lockS; rw [if_pos h]
  repeat (first | (refine GQ.y ?_; refine Q.y ?_) | refine Q.go ?_ | (refine GQ.g ?_; refine Q.gq ?_) | (refine GQ.s ?_; refine Q.st ?_) | (refine GQ.g ?_; refine Q.gd ?_) | refine Q.ct rfl ?_ | refine Q.cf rfl ?_ | (refine GQ.a ?_; refine Q.al (fun b1 => ?_)))
  refine swp_cutB (σ := Unit) (fun _ => [(0, ptrV p), (3, .pointer (some ⟨b1, 0, none⟩))]) (fun _ => rP p st.dim a es c a' is c' st.mark :: roM M :: pt b1 (cl [.int .u64 i.txn, .int .u64 i.after, .slice i.a i.ops.length i.c] 50) :: L) (fun _ => ∀ j ∈ is, ∀ o ∈ i.ops, holdsV (j.ops.map OV.abs) o.id = false) ?_ ?_
  · refine swp_loop (σ := Nat) (fun k => [(0, ptrV p), (3, .pointer (some ⟨b1, 0, none⟩)), (36, .slice a' is.length c'), (37, .int .i64 is.length), (38, .int .i64 k)]) (fun _ => rP p st.dim a es c a' is c' st.mark :: roM M :: pt b1 (cl [.int .u64 i.txn, .int .u64 i.after, .slice i.a i.ops.length i.c] 50) :: L)
      (fun k => k ≤ is.length ∧ ∀ j ∈ is.take k, ∀ o ∈ i.ops, holdsV (j.ops.map OV.abs) o.id = false) (fun k => is.length - k) 0 ⟨rfl, rfl, rfl, rfl, rfl, trivial⟩ (by repeat (first | exact Ent.refl _ | exact Ent.nil | refine Ent.pick ?_ | refine Ent.nilS ?_ | refine Ent.nilM ?_ | refine Ent.drop ?_)) ⟨by omega, by simp⟩ ?_
    rintro k ⟨hk, hok2⟩
    by_cases hlt : k < is.length
    · obtain ⟨x, hx⟩ := mem_get hlt
      have hmx : x ∈ is := List.mem_of_getElem? hx
      have hox := hok.oi x hmx
      have hxl : x.ops.length ≤ 16 := by
        have := (hw.io x.abs (hok.its.mem_iff.1 (List.mem_map_of_mem hmx))).1
        simpa using this
      have hrs : RdS (rP p st.dim a es c a' is c' st.mark :: roM M :: pt b1 (cl [.int .u64 i.txn, .int .u64 i.after, .slice i.a i.ops.length i.c] 50) :: L) a' is.length 3 (is.flatMap IV.cells) := hok.sI.rd
      obtain ⟨b, oo, hia, hr⟩ := RdS.elem (g := IV.cells) (fun _ => rfl) hrs hx rfl
      clear hrs
      rw [hia] at hr ⊢
      repeat (first | (refine GQ.y ?_; refine Q.y ?_) | refine Q.go ?_ | (refine GQ.g ?_; refine Q.gq ?_) | (refine GQ.s ?_; refine Q.st ?_) | (refine GQ.g ?_; refine Q.gd ?_) | refine Q.ct rfl ?_ | refine Q.cf rfl ?_ | (refine GQ.a ?_; refine Q.al (fun b1 => ?_)))
      rename_i bx
      refine swp_loop (σ := Nat) (fun j => [(0, ptrV p), (3, .pointer (some ⟨bx, 0, none⟩)), (7, .pointer (some ⟨b1, 0, none⟩)), (36, .slice (some ⟨b, oo, none⟩) is.length c'), (37, .int .i64 is.length), (38, .int .i64 k), (43, .slice i.a i.ops.length i.c), (44, .int .i64 i.ops.length), (45, .int .i64 j)])
        (fun j => pt b1 (cl x.cells 50) :: rP p st.dim a es c (some ⟨b, oo, none⟩) is c' st.mark :: roM M :: pt bx (cl [.int .u64 i.txn, .int .u64 i.after, .slice i.a i.ops.length i.c] 50) :: L)
        (fun j => j ≤ i.ops.length ∧ ∀ o ∈ i.ops.take j, holdsV (x.ops.map OV.abs) o.id = false) (fun j => i.ops.length - j) 0 ⟨rfl, rfl, rfl, rfl, rfl, rfl, rfl, rfl, rfl, trivial⟩ (by repeat (first | exact Ent.refl _ | exact Ent.nil | refine Ent.pick ?_ | refine Ent.nilS ?_ | refine Ent.nilM ?_ | refine Ent.drop ?_)) ⟨by omega, by simp⟩ ?_
      rintro j ⟨hj, hjn⟩
      by_cases hjl : j < i.ops.length
      · obtain ⟨o, ho⟩ := mem_get hjl
        have hmo : o ∈ i.ops := List.mem_of_getElem? ho
        have hrs : RdO (pt b1 (cl x.cells 50) :: rP p st.dim a es c (some ⟨b, oo, none⟩) is c' st.mark :: roM M :: pt bx (cl [.int .u64 i.txn, .int .u64 i.after, .slice i.a i.ops.length i.c] 50) :: L) i.a i.ops := h.sub
        obtain ⟨b4, o4, hia4, hr4⟩ := RdS.elem (g := OV.cells) (fun _ => rfl) hrs.1 ho rfl
        rw [hia4] at hr4 ⊢
        repeat (first | (refine GQ.y ?_; refine Q.y ?_) | refine Q.go ?_ | (refine GQ.g ?_; refine Q.gq ?_) | (refine GQ.s ?_; refine Q.st ?_) | (refine GQ.g ?_; refine Q.gd ?_) | refine Q.ct rfl ?_ | refine Q.cf rfl ?_ | (refine GQ.a ?_; refine Q.al (fun b1 => ?_)))
        refine S.cr rfl (RHolds_spec x o.id _ hox.rd (by omega)) ?_
        rintro _ _ ⟨rfl, rfl⟩
        cases hh : holdsV (x.ops.map OV.abs) o.id with
        | true =>
          have hany : (i.ops.any fun o => st.its.any fun i => holdsV i.2.2 o.id) = true := List.any_eq_true.2 ⟨o, hmo, List.any_eq_true.2 ⟨x.abs, hok.its.mem_iff.1 (List.mem_map_of_mem hmx), hh⟩⟩
          rw [hany, if_pos rfl] at hE1
          rw [hst _ hE1 (by decide), hE1]
          repeat (first | (refine GQ.y ?_; refine Q.y ?_) | refine Q.go ?_ | (refine GQ.g ?_; refine Q.gq ?_) | (refine GQ.s ?_; refine Q.st ?_) | (refine GQ.g ?_; refine Q.gd ?_) | refine Q.ct rfl ?_ | refine Q.cf rfl ?_ | (refine GQ.a ?_; refine Q.al (fun b1 => ?_)))
          refine N.r1 (RV.tmp rfl RV.nil) ?_ ⟨rfl, rfl⟩
          refine Ent.trans ?_ (ref_shut hok)
          rw [hia]
          repeat (first | exact Ent.refl _ | exact Ent.nil | refine Ent.pick ?_ | refine Ent.nilS ?_ | refine Ent.nilM ?_ | refine Ent.drop ?_)
        | false =>
          repeat (first | (refine GQ.y ?_; refine Q.y ?_) | refine Q.go ?_ | (refine GQ.g ?_; refine Q.gq ?_) | (refine GQ.s ?_; refine Q.st ?_) | (refine GQ.g ?_; refine Q.gd ?_) | refine Q.ct rfl ?_ | refine Q.cf rfl ?_ | (refine GQ.a ?_; refine Q.al (fun b1 => ?_)))
          refine ⟨j + 1, ⟨rfl, rfl, rfl, rfl, rfl, rfl, rfl, rfl, rfl, trivial⟩, by repeat (first | exact Ent.refl _ | exact Ent.nil | refine Ent.pick ?_ | refine Ent.nilS ?_ | refine Ent.nilM ?_ | refine Ent.drop ?_), ⟨by omega, ?_⟩, by omega⟩
          rw [take_snoc ho]
          intro u hu
          rcases List.mem_append.1 hu with hu | hu
          · exact hjn u hu
          · obtain rfl := List.mem_singleton.1 hu
            exact hh
      · have hje : j = i.ops.length := by omega
        subst hje
        rw [List.take_length] at hjn
        repeat (first | (refine GQ.y ?_; refine Q.y ?_) | refine Q.go ?_ | (refine GQ.g ?_; refine Q.gq ?_) | (refine GQ.s ?_; refine Q.st ?_) | (refine GQ.g ?_; refine Q.gd ?_) | refine Q.ct rfl ?_ | refine Q.cf rfl ?_ | (refine GQ.a ?_; refine Q.al (fun b1 => ?_)))
        refine ⟨k + 1, ⟨rfl, rfl, rfl, rfl, rfl, trivial⟩, by repeat (first | exact Ent.refl _ | exact Ent.nil | refine Ent.pick ?_ | refine Ent.nilS ?_ | refine Ent.nilM ?_ | refine Ent.drop ?_), ⟨by omega, ?_⟩, by omega⟩
        rw [take_snoc hx]
        intro u hu
        rcases List.mem_append.1 hu with hu | hu
        · exact hok2 u hu
        · obtain rfl := List.mem_singleton.1 hu
          exact hjn
    · have hke : k = is.length := by omega
      subst hke
      rw [List.take_length] at hok2
      repeat (first | (refine GQ.y ?_; refine Q.y ?_) | refine Q.go ?_ | (refine GQ.g ?_; refine Q.gq ?_) | (refine GQ.s ?_; refine Q.st ?_) | (refine GQ.g ?_; refine Q.gd ?_) | refine Q.ct rfl ?_ | refine Q.cf rfl ?_ | (refine GQ.a ?_; refine Q.al (fun b1 => ?_)))
      exact ⟨(), ⟨rfl, rfl, trivial⟩, Ent.refl _, hok2⟩
  intro uu hnh
  have hany : (i.ops.any fun o => st.its.any fun i => holdsV i.2.2 o.id) = false := by
    rw [List.any_eq_false]
    intro o ho hh
    obtain ⟨w, hw', hh⟩ := List.any_eq_true.1 hh
    obtain ⟨j, hj, rfl⟩ := List.mem_map.1 (hok.its.mem_iff.2 hw')
    have := hnh j hj o ho
    rw [show holdsV j.abs.2.2 o.id = holdsV (j.ops.map OV.abs) o.id from rfl, this] at hh
    cases hh
  rw [hany, if_neg Bool.false_ne_true] at hE1
  rw [hst0 hE1, hE1]
  obtain ⟨q, hq⟩ : ∃ q, q = (is.filter fun j => decide (j.txn < i.txn)).length := ⟨_, rfl⟩
  have hspl := ins_split (fun j : IV => j.txn) i.txn hok.ss
  rw [← hq] at hspl
  have hqn : q ≤ is.length := by rw [hq]; exact List.length_filter_le _ _
  repeat (first | (refine GQ.y ?_; refine Q.y ?_) | refine Q.go ?_ | (refine GQ.g ?_; refine Q.gq ?_) | (refine GQ.s ?_; refine Q.st ?_) | (refine GQ.g ?_; refine Q.gd ?_) | refine Q.ct rfl ?_ | refine Q.cf rfl ?_ | (refine GQ.a ?_; refine Q.al (fun b1 => ?_)))
  refine swp_cutB (σ := Unit) (fun _ => [(0, ptrV p), (3, .pointer (some ⟨b1, 0, none⟩)), (10, .int .i64 q)]) (fun _ => rP p st.dim a es c a' is c' st.mark :: roM M :: pt b1 (cl [.int .u64 i.txn, .int .u64 i.after, .slice i.a i.ops.length i.c] 50) :: L) (fun _ => True) ?_ ?_
  · refine swp_loop (σ := Nat) (fun k => [(0, ptrV p), (3, .pointer (some ⟨b1, 0, none⟩)), (58, .slice a' is.length c'), (59, .int .i64 is.length), (10, .int .i64 ((is.take k).filter fun j => decide (j.txn < i.txn)).length), (60, .int .i64 k)]) (fun _ => rP p st.dim a es c a' is c' st.mark :: roM M :: pt b1 (cl [.int .u64 i.txn, .int .u64 i.after, .slice i.a i.ops.length i.c] 50) :: L)
      (fun k => k ≤ is.length) (fun k => is.length - k) 0 ⟨rfl, rfl, rfl, rfl, rfl, rfl, trivial⟩ (by repeat (first | exact Ent.refl _ | exact Ent.nil | refine Ent.pick ?_ | refine Ent.nilS ?_ | refine Ent.nilM ?_ | refine Ent.drop ?_)) (by omega) ?_
    intro k hk
    by_cases hlt : k < is.length
    · obtain ⟨x, hx⟩ := mem_get hlt
      have hrs : RdS (rP p st.dim a es c a' is c' st.mark :: roM M :: pt b1 (cl [.int .u64 i.txn, .int .u64 i.after, .slice i.a i.ops.length i.c] 50) :: L) a' is.length 3 (is.flatMap IV.cells) := hok.sI.rd
      obtain ⟨b, oo, hia, hr⟩ := RdS.elem (g := IV.cells) (fun _ => rfl) hrs hx rfl
      clear hrs
      rw [hia] at hr ⊢
      have hfl := List.length_filter_le (fun j : IV => decide (j.txn < i.txn)) (is.take k)
      rw [List.length_take] at hfl
      by_cases hxt : x.txn < i.txn
      · have e : ((is.take (k + 1)).filter fun j => decide (j.txn < i.txn)).length = ((is.take k).filter fun j => decide (j.txn < i.txn)).length + 1 := by rw [take_snoc hx, List.filter_append]; simp [hxt]
        repeat (first | (refine GQ.y ?_; refine Q.y ?_) | refine Q.go ?_ | (refine GQ.g ?_; refine Q.gq ?_) | (refine GQ.s ?_; refine Q.st ?_) | (refine GQ.g ?_; refine Q.gd ?_) | refine Q.ct rfl ?_ | refine Q.cf rfl ?_ | (refine GQ.a ?_; refine Q.al (fun b1 => ?_)))
        refine ⟨k + 1, ⟨rfl, rfl, rfl, rfl, ?_, rfl, trivial⟩, by repeat (first | exact Ent.refl _ | exact Ent.nil | refine Ent.pick ?_ | refine Ent.nilS ?_ | refine Ent.nilM ?_ | refine Ent.drop ?_), by omega, by omega⟩
        rw [e]; rfl
      · have e : ((is.take (k + 1)).filter fun j => decide (j.txn < i.txn)).length = ((is.take k).filter fun j => decide (j.txn < i.txn)).length := by rw [take_snoc hx, List.filter_append]; simp [hxt]
        repeat (first | (refine GQ.y ?_; refine Q.y ?_) | refine Q.go ?_ | (refine GQ.g ?_; refine Q.gq ?_) | (refine GQ.s ?_; refine Q.st ?_) | (refine GQ.g ?_; refine Q.gd ?_) | refine Q.ct rfl ?_ | refine Q.cf rfl ?_ | (refine GQ.a ?_; refine Q.al (fun b1 => ?_)))
        refine ⟨k + 1, ⟨rfl, rfl, rfl, rfl, ?_, rfl, trivial⟩, by repeat (first | exact Ent.refl _ | exact Ent.nil | refine Ent.pick ?_ | refine Ent.nilS ?_ | refine Ent.nilM ?_ | refine Ent.drop ?_), by omega, by omega⟩
        rw [e]; rfl
    · have hke : k = is.length := by omega
      subst hke
      repeat (first | (refine GQ.y ?_; refine Q.y ?_) | refine Q.go ?_ | (refine GQ.g ?_; refine Q.gq ?_) | (refine GQ.s ?_; refine Q.st ?_) | (refine GQ.g ?_; refine Q.gd ?_) | refine Q.ct rfl ?_ | refine Q.cf rfl ?_ | (refine GQ.a ?_; refine Q.al (fun b1 => ?_)))
      refine ⟨(), ⟨rfl, rfl, ?_, trivial⟩, Ent.refl _, trivial⟩
      rw [hq, List.take_length]; rfl
  intro uu2 _
  repeat (first | (refine GQ.y ?_; refine Q.y ?_) | refine Q.go ?_ | (refine GQ.g ?_; refine Q.gq ?_) | (refine GQ.s ?_; refine Q.st ?_) | (refine GQ.g ?_; refine Q.gd ?_) | refine Q.ct rfl ?_ | refine Q.cf rfl ?_ | (refine GQ.a ?_; refine Q.al (fun b1 => ?_)))
  refine S.cr rfl (Few_spec 100 i.a i.c i.ops _ h.sub hc (by omega) (by omega)) ?_
  rintro _ _ ⟨a5, c5, us, hus, rfl, rfl⟩
  rw [few_id (by rw [List.length_map] at k2 ⊢; omega) (fun o ho => by have := (k4 o ho).1; omega)] at hus
  repeat (first | (refine GQ.y ?_; refine Q.y ?_) | refine Q.go ?_ | (refine GQ.g ?_; refine Q.gq ?_) | (refine GQ.s ?_; refine Q.st ?_) | (refine GQ.g ?_; refine Q.gd ?_) | refine Q.ct rfl ?_ | refine Q.cf rfl ?_ | (refine GQ.a ?_; refine Q.al (fun b1 => ?_)))
  refine swp_abs a5 (fun M1 hl1 hs1 => ?_)
  refine swp_absVc us (fun M2 hl2' hs2 hsc => ?_)
  have hcI := hok.cI
  have hrd : ∀ L, HasM M2 L → RdS L a' is.length 3 (is.flatMap IV.cells) := fun L _ => (hok.sI.mono (hl1.trans hl2')).rd
  have hat := SlM.at hok.sI
  obtain ⟨nw, hnw⟩ : ∃ nw : IV, nw = ⟨i.txn, i.after, a5, c5, us⟩ := ⟨_, rfl⟩
  repeat (first | (refine GQ.y ?_; refine Q.y ?_) | refine Q.go ?_ | (refine GQ.g ?_; refine Q.gq ?_) | (refine GQ.s ?_; refine Q.st ?_) | (refine GQ.g ?_; refine Q.gd ?_) | refine Q.ct rfl ?_ | refine Q.cf rfl ?_ | (refine GQ.a ?_; refine Q.al (fun b1 => ?_)))
  refine swp_cutT (σ := Option Addr × Nat) (fun _ => []) (fun s => slO 50 3 s.1 (q + 1 + (is.length - q)) s.2 ((is.flatMap IV.cells).take (q * 3) ++ nw.cells ++ (is.flatMap IV.cells).drop (q * 3)) :: pt p (cl [.int .i64 st.dim, .slice a es.length c, .slice s.1 (q + 1 + (is.length - q)) s.2, .int .u64 st.mark] 33) :: roM M2 :: L) (fun _ => True) ?_ ?_
  · rw [hnw]
    refine Q.dgo [false, true, true] [1, 8, 10, 11, 18, 21] [21] [0, 2, 3, 4, 5, 6, 7, 9, 12, 13, 14, 15, 16, 17, 99999, 0, 0, 0, 0, 0, 0, 0] ?_
    repeat (first | refine D.endA ?_ | refine Q.dy rfl rfl rfl ?_ | refine Q.dp rfl rfl rfl ?_ | refine D.end_ ?_ | refine Q.endH ?_ | (refine D.e rfl rfl rfl ?_; (first | refine S.gskip1 rfl ?_ | refine S.gskip rfl ?_ | refine S.y (Y.gskipU rfl) ?_); refine opsS_nil ?_; refine N.tn ?_) | refine Q.dT rfl rfl rfl ?_ | refine Q.dF rfl rfl rfl ?_)
    refine D.yp rfl rfl rfl (Y.slT (h := q) rfl rfl rfl (by omega)) ?_
    repeat (first | refine D.endA ?_ | refine Q.dy rfl rfl rfl ?_ | refine Q.dp rfl rfl rfl ?_ | refine D.end_ ?_ | refine Q.endH ?_ | (refine D.e rfl rfl rfl ?_; (first | refine S.gskip1 rfl ?_ | refine S.gskip rfl ?_ | refine S.y (Y.gskipU rfl) ?_); refine opsS_nil ?_; refine N.tn ?_) | refine Q.dT rfl rfl rfl ?_ | refine Q.dF rfl rfl rfl ?_)
    refine D.yp rfl rfl rfl (Y.slFa (l := q) rfl rfl rfl hqn hat) ?_
    refine D.two 1 10 [99999, 0, 0, 0, 0, 0, 0] [1, 8, 11, 18, 19, 20, 21] (by kernel_rfl) rfl rfl rfl rfl (by kernel_rfl) (by kernel_rfl) ?_ ?_
    · refine S.bs rfl rfl rfl rfl rfl (fun bz => ?_); refine opsS_ent (slO_fold (sz := 3) (m := 0) rfl) ?_; (repeat (first | (refine GQ.y ?_; refine Q.y ?_) | refine Q.go ?_ | (refine GQ.g ?_; refine Q.gq ?_) | (refine GQ.s ?_; refine Q.st ?_)))
      refine D.two 8 10 [10, 11, 18, 19, 20, 21] [8, 11, 18, 19, 20, 21] (by kernel_rfl) rfl rfl rfl rfl (by kernel_rfl) (by kernel_rfl) ?_ ?_
      · refine S.app0 rfl rfl rfl (SrcS.rd (RdS.take (k := q) (hrd _ inferInstance) (by omega)) (by rw [flat_take (sz := 3) (fun _ => rfl)]; exact IV_one _)) (by rfl) (by omega) (by omega) (fun a6 c6 => ?_); (repeat (first | (refine GQ.y ?_; refine Q.y ?_) | refine Q.go ?_ | (refine GQ.g ?_; refine Q.gq ?_) | (refine GQ.s ?_; refine Q.st ?_)))
        refine D.e rfl rfl rfl ?_
        refine S.bs rfl rfl rfl rfl (by repeat (first | exact nz | (apply cz; exact rfl) | exact rfl)) (fun b8 => ?_); (repeat (first | (refine GQ.y ?_; refine Q.y ?_) | refine Q.go ?_ | (refine GQ.g ?_; refine Q.gq ?_) | (refine GQ.s ?_; refine Q.st ?_)))
        refine D.e rfl rfl rfl ?_
        refine S.app rfl rfl (SrcS.sl RdC.row (by rfl) (by rfl)) (by rfl) (by omega) (by omega) (fun a7 c7 => ?_); (repeat (first | (refine GQ.y ?_; refine Q.y ?_) | refine Q.go ?_ | (refine GQ.g ?_; refine Q.gq ?_) | (refine GQ.s ?_; refine Q.st ?_)))
        refine D.e rfl rfl rfl ?_
        refine S.app rfl rfl (SrcS.rd (RdS.fromA (l := q) (hrd _ inferInstance) (by omega) hcI) (by rw [flat_drop (sz := 3) (fun _ => rfl)]; exact IV_one _)) (by rfl) (by omega) (by omega) (fun a8 c8 => ?_); (repeat (first | (refine GQ.y ?_; refine Q.y ?_) | refine Q.go ?_ | (refine GQ.g ?_; refine Q.gq ?_) | (refine GQ.s ?_; refine Q.st ?_))); (repeat (first | refine D.endA ?_ | refine Q.dy rfl rfl rfl ?_ | refine Q.dp rfl rfl rfl ?_ | refine D.end_ ?_ | refine Q.endH ?_ | (refine D.e rfl rfl rfl ?_; (first | refine S.gskip1 rfl ?_ | refine S.gskip rfl ?_ | refine S.y (Y.gskipU rfl) ?_); refine opsS_nil ?_; refine N.tn ?_) | refine Q.dT rfl rfl rfl ?_ | refine Q.dF rfl rfl rfl ?_)); refine Q.dc rfl rfl rfl rfl ?_; (repeat (first | (refine GQ.y ?_; refine Q.y ?_) | refine Q.go ?_ | (refine GQ.g ?_; refine Q.gq ?_) | (refine GQ.s ?_; refine Q.st ?_))); (repeat (first | refine D.endA ?_ | refine Q.dy rfl rfl rfl ?_ | refine Q.dp rfl rfl rfl ?_ | refine D.end_ ?_ | refine Q.endH ?_ | (refine D.e rfl rfl rfl ?_; (first | refine S.gskip1 rfl ?_ | refine S.gskip rfl ?_ | refine S.y (Y.gskipU rfl) ?_); refine opsS_nil ?_; refine N.tn ?_) | refine Q.dT rfl rfl rfl ?_ | refine Q.dF rfl rfl rfl ?_))
        refine N.tn ⟨(a8, c8), trivial, ?_, trivial⟩
        (try dsimp only); repeat (first | exact Ent.refl _ | exact Ent.nil | refine Ent.pick ?_ | refine Ent.nilS ?_ | refine Ent.nilM ?_ | refine Ent.drop ?_)
      · refine S.bs rfl rfl rfl rfl (by repeat (first | exact nz | (apply cz; exact rfl) | exact rfl)) (fun b8 => ?_); (repeat (first | (refine GQ.y ?_; refine Q.y ?_) | refine Q.go ?_ | (refine GQ.g ?_; refine Q.gq ?_) | (refine GQ.s ?_; refine Q.st ?_)))
        refine D.e rfl rfl rfl ?_
        refine S.app0 rfl rfl rfl (SrcS.rd (RdS.take (k := q) (hrd _ inferInstance) (by omega)) (by rw [flat_take (sz := 3) (fun _ => rfl)]; exact IV_one _)) (by rfl) (by omega) (by omega) (fun a6 c6 => ?_); (repeat (first | (refine GQ.y ?_; refine Q.y ?_) | refine Q.go ?_ | (refine GQ.g ?_; refine Q.gq ?_) | (refine GQ.s ?_; refine Q.st ?_)))
        refine D.e rfl rfl rfl ?_
        refine S.app rfl rfl (SrcS.sl RdC.row (by rfl) (by rfl)) (by rfl) (by omega) (by omega) (fun a7 c7 => ?_); (repeat (first | (refine GQ.y ?_; refine Q.y ?_) | refine Q.go ?_ | (refine GQ.g ?_; refine Q.gq ?_) | (refine GQ.s ?_; refine Q.st ?_)))
        refine D.e rfl rfl rfl ?_
        refine S.app rfl rfl (SrcS.rd (RdS.fromA (l := q) (hrd _ inferInstance) (by omega) hcI) (by rw [flat_drop (sz := 3) (fun _ => rfl)]; exact IV_one _)) (by rfl) (by omega) (by omega) (fun a8 c8 => ?_); (repeat (first | (refine GQ.y ?_; refine Q.y ?_) | refine Q.go ?_ | (refine GQ.g ?_; refine Q.gq ?_) | (refine GQ.s ?_; refine Q.st ?_))); (repeat (first | refine D.endA ?_ | refine Q.dy rfl rfl rfl ?_ | refine Q.dp rfl rfl rfl ?_ | refine D.end_ ?_ | refine Q.endH ?_ | (refine D.e rfl rfl rfl ?_; (first | refine S.gskip1 rfl ?_ | refine S.gskip rfl ?_ | refine S.y (Y.gskipU rfl) ?_); refine opsS_nil ?_; refine N.tn ?_) | refine Q.dT rfl rfl rfl ?_ | refine Q.dF rfl rfl rfl ?_)); refine Q.dc rfl rfl rfl rfl ?_; (repeat (first | (refine GQ.y ?_; refine Q.y ?_) | refine Q.go ?_ | (refine GQ.g ?_; refine Q.gq ?_) | (refine GQ.s ?_; refine Q.st ?_))); (repeat (first | refine D.endA ?_ | refine Q.dy rfl rfl rfl ?_ | refine Q.dp rfl rfl rfl ?_ | refine D.end_ ?_ | refine Q.endH ?_ | (refine D.e rfl rfl rfl ?_; (first | refine S.gskip1 rfl ?_ | refine S.gskip rfl ?_ | refine S.y (Y.gskipU rfl) ?_); refine opsS_nil ?_; refine N.tn ?_) | refine Q.dT rfl rfl rfl ?_ | refine Q.dF rfl rfl rfl ?_))
        refine N.tn ⟨(a8, c8), trivial, ?_, trivial⟩
        (try dsimp only); repeat (first | exact Ent.refl _ | exact Ent.nil | refine Ent.pick ?_ | refine Ent.nilS ?_ | refine Ent.nilM ?_ | refine Ent.drop ?_)
    · refine S.bs rfl rfl rfl rfl (by repeat (first | exact nz | (apply cz; exact rfl) | exact rfl)) (fun b8 => ?_); (repeat (first | (refine GQ.y ?_; refine Q.y ?_) | refine Q.go ?_ | (refine GQ.g ?_; refine Q.gq ?_) | (refine GQ.s ?_; refine Q.st ?_)))
      refine D.e rfl rfl rfl ?_
      refine S.bs rfl rfl rfl rfl rfl (fun bz => ?_); refine opsS_ent (slO_fold (sz := 3) (m := 0) rfl) ?_; (repeat (first | (refine GQ.y ?_; refine Q.y ?_) | refine Q.go ?_ | (refine GQ.g ?_; refine Q.gq ?_) | (refine GQ.s ?_; refine Q.st ?_)))
      refine D.e rfl rfl rfl ?_
      refine S.app0 rfl rfl rfl (SrcS.rd (RdS.take (k := q) (hrd _ inferInstance) (by omega)) (by rw [flat_take (sz := 3) (fun _ => rfl)]; exact IV_one _)) (by rfl) (by omega) (by omega) (fun a6 c6 => ?_); (repeat (first | (refine GQ.y ?_; refine Q.y ?_) | refine Q.go ?_ | (refine GQ.g ?_; refine Q.gq ?_) | (refine GQ.s ?_; refine Q.st ?_)))
      refine D.e rfl rfl rfl ?_
      refine S.app rfl rfl (SrcS.sl RdC.row (by rfl) (by rfl)) (by rfl) (by omega) (by omega) (fun a7 c7 => ?_); (repeat (first | (refine GQ.y ?_; refine Q.y ?_) | refine Q.go ?_ | (refine GQ.g ?_; refine Q.gq ?_) | (refine GQ.s ?_; refine Q.st ?_)))
      refine D.e rfl rfl rfl ?_
      refine S.app rfl rfl (SrcS.rd (RdS.fromA (l := q) (hrd _ inferInstance) (by omega) hcI) (by rw [flat_drop (sz := 3) (fun _ => rfl)]; exact IV_one _)) (by rfl) (by omega) (by omega) (fun a8 c8 => ?_); (repeat (first | (refine GQ.y ?_; refine Q.y ?_) | refine Q.go ?_ | (refine GQ.g ?_; refine Q.gq ?_) | (refine GQ.s ?_; refine Q.st ?_))); (repeat (first | refine D.endA ?_ | refine Q.dy rfl rfl rfl ?_ | refine Q.dp rfl rfl rfl ?_ | refine D.end_ ?_ | refine Q.endH ?_ | (refine D.e rfl rfl rfl ?_; (first | refine S.gskip1 rfl ?_ | refine S.gskip rfl ?_ | refine S.y (Y.gskipU rfl) ?_); refine opsS_nil ?_; refine N.tn ?_) | refine Q.dT rfl rfl rfl ?_ | refine Q.dF rfl rfl rfl ?_)); refine Q.dc rfl rfl rfl rfl ?_; (repeat (first | (refine GQ.y ?_; refine Q.y ?_) | refine Q.go ?_ | (refine GQ.g ?_; refine Q.gq ?_) | (refine GQ.s ?_; refine Q.st ?_))); (repeat (first | refine D.endA ?_ | refine Q.dy rfl rfl rfl ?_ | refine Q.dp rfl rfl rfl ?_ | refine D.end_ ?_ | refine Q.endH ?_ | (refine D.e rfl rfl rfl ?_; (first | refine S.gskip1 rfl ?_ | refine S.gskip rfl ?_ | refine S.y (Y.gskipU rfl) ?_); refine opsS_nil ?_; refine N.tn ?_) | refine Q.dT rfl rfl rfl ?_ | refine Q.dF rfl rfl rfl ?_))
      refine N.tn ⟨(a8, c8), trivial, ?_, trivial⟩
      (try dsimp only); repeat (first | exact Ent.refl _ | exact Ent.nil | refine Ent.pick ?_ | refine Ent.nilS ?_ | refine Ent.nilM ?_ | refine Ent.drop ?_)
  rintro ⟨a9, c9⟩ -
  dsimp only
  refine swp_cap a9 fun hc9 => swp_abs a9 fun M3 hl3 hsl => ?_
  repeat (first | (refine GQ.y ?_; refine Q.y ?_) | refine Q.go ?_ | (refine GQ.g ?_; refine Q.gq ?_) | (refine GQ.s ?_; refine Q.st ?_) | (refine GQ.g ?_; refine Q.gd ?_) | refine Q.ct rfl ?_ | refine Q.cf rfl ?_ | (refine GQ.a ?_; refine Q.al (fun b1 => ?_)))
  obtain ⟨is2, his2⟩ : ∃ is2, is2 = is.take q ++ nw :: is.drop q := ⟨_, rfl⟩
  have hl2 : is2.length = q + 1 + (is.length - q) := by rw [his2]; simp; omega
  have hcells : (is.flatMap IV.cells).take (q * 3) ++ nw.cells ++ (is.flatMap IV.cells).drop (q * 3) = is2.flatMap IV.cells := by
    rw [flat_take (sz := 3) (fun _ => rfl), flat_drop (sz := 3) (fun _ => rfl), his2, List.flatMap_append, List.flatMap_cons, List.append_assoc]
  rw [hcells] at hsl
  rw [← hl2] at hsl hc9 ⊢
  have habs : nw.abs = (i.txn, i.after, i.ops.map OV.abs) := by rw [hnw]; show (i.txn, i.after, us.map OV.abs) = _; rw [hus]
  have hnt : nw.txn = i.txn := by rw [hnw]
  have hins := hok.ins (hl1.trans (hl2'.trans hl3)) (nw := nw) (by rw [hnw]; exact ⟨hs1.mono (hl2'.trans hl3), fun o ho => (hs2 o ho).mono hl3⟩) (by rw [hnt]; exact hno') (by rw [hnw]; exact hsc) (is2 := is2) (by rw [his2, hspl.1, hspl.2, hnt]) hsl hc9
  rw [habs] at hins
  refine N.r1 (RV.tmp rfl RV.nil) ?_ ⟨rfl, rfl⟩
  refine Ent.trans ?_ (ref_shut hins)
  repeat (first | exact Ent.refl _ | exact Ent.nil | refine Ent.pick ?_ | refine Ent.nilS ?_ | refine Ent.nilM ?_ | refine Ent.drop ?_)
end Go.Proofs.YtieejgbjgcbbjaaGreat
