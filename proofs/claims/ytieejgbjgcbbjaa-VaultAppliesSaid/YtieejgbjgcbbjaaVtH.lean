/- VaultApplies: what the law comes to. No condition. -/
import Derived.Test.YtieejgbjgcbbjaaVtG
set_option linter.unusedVariables false
set_option linter.unusedSimpArgs false
namespace Go.Proofs.Ytieejgbjgcbbjaa
open Go Go.SX
attribute [local irreducible] swp opsS thenS blockS retS CallsS St Ent YieldS anyS drawS
theorem applyC_new {s : Int} : ∀ {ops ch : VL} {chs : List (Int × VL)}, (ops.map (·.1)).Nodup → (∀ u ∈ chs, u.1 ∉ ops.map (·.1)) → applyC s chs ops = chs ++ ops.map fun o => (o.1, [(s, o.2)])
  | [], _, chs, _, _ => by simp [applyC]
  | o :: ops, ch, chs, hn, hd => by
    simp only [List.map_cons, List.nodup_cons] at hn
    have h1 : ∀ u ∈ chs, u.1 ≠ o.1 := fun u hu e => hd u hu (by rw [e]; simp)
    have h2 : putC s chs o = chs ++ [(o.1, [(s, o.2)])] := by
      unfold putC chV
      rw [lkL_none h1, putL_none h1]; rfl
    show applyC s (putC s chs o) ops = _
    rw [h2, applyC_new (ch := ch) hn.2 (fun u hu hm => by
      rcases List.mem_append.1 hu with hu | hu
      · exact hd u hu (by rw [List.map_cons]; exact List.mem_cons_of_mem _ hm)
      · obtain rfl := List.mem_singleton.1 hu
        exact hn.1 hm)]
    simp
theorem applyC_nil {s : Int} {ops : VL} (hn : (ops.map (·.1)).Nodup) : applyC s [] ops = ops.map fun o => (o.1, [(s, o.2)]) := by
  rw [applyC_new (ch := ops) hn (by simp)]; rfl
theorem lk_new {s : Int} : ∀ {ops : VL} {o : Int × List Int}, (ops.map (·.1)).Nodup → o ∈ ops → lkL (ops.map fun o => (o.1, [(s, o.2)])) o.1 = some [(s, o.2)]
  | [], _, _, h => by cases h
  | x :: ops, o, hn, h => by
    simp only [List.map_cons, List.nodup_cons] at hn
    rcases List.mem_cons.1 h with rfl | h
    · simp [lkL]
    · have hne : x.1 ≠ o.1 := fun e => hn.1 (by rw [e]; exact List.mem_map_of_mem h)
      have := lk_new (s := s) hn.2 h
      unfold lkL at this ⊢
      rw [List.map_cons, List.find?_cons]
      simp only [hne, decide_false]
      exact this
/-- What is known when the lock was taken. -/
structure Took (after : Int) (ops : VL) : Prop where
  af : after ≤ 1099511627776
  l1 : 1 ≤ ops.length
  l2 : ops.length ≤ 16
  nd : (ops.map (·.1)).Nodup
  ok : ∀ o ∈ ops, o.2.length ≤ 8 ∧ (0 < o.2.length → rightV o.2 = true)
theorem took {t after : Int} {ops : VL} (h : lockE ⟨2, [], [], 0⟩ t after ops = 0) : Took after ops := by
  unfold lockE at h
  by_cases h1 : 1099511627776 < after
  · rw [if_pos h1] at h; cases h
  rw [if_neg h1] at h
  by_cases h2 : checkV 2 ops ≠ 0
  · rw [if_pos h2] at h; exact absurd h h2
  have h2' : checkV 2 ops = 0 := by
    by_cases hh : checkV 2 ops = 0
    · exact hh
    · exact absurd hh h2
  unfold checkV at h2'
  rw [if_neg (by decide)] at h2'
  by_cases h3 : ops.length = 0
  · rw [if_pos h3] at h2'; cases h2'
  rw [if_neg h3] at h2'
  by_cases h4 : 16 < ops.length
  · rw [if_pos h4] at h2'; cases h2'
  rw [if_neg h4] at h2'
  by_cases h5 : ops.any (badO 2) = true
  · rw [if_pos h5] at h2'; cases h2'
  rw [if_neg h5] at h2'
  by_cases h6 : (ops.map (·.1)).Nodup
  · refine ⟨by omega, by omega, by omega, h6, fun o ho => ?_⟩
    have hb : badO 2 o = false := by
      cases hb : badO 2 o with
      | false => rfl
      | true => exact absurd (List.any_eq_true.2 ⟨o, ho, hb⟩) h5
    unfold badO at hb
    simp only [Bool.or_eq_false_iff, Bool.and_eq_false_iff, decide_eq_false_iff_not, Bool.not_eq_false', Decidable.not_not] at hb
    obtain ⟨_, hb⟩ := hb
    rcases hb with hb | hb
    · exact ⟨by omega, fun h => absurd h hb⟩
    · exact ⟨by omega, fun _ => hb.1⟩
  · rw [if_neg h6] at h2'; cases h2'
theorem tookS {t after : Int} {ops : VL} (h : lockE ⟨2, [], [], 0⟩ t after ops = 0) : lockS ⟨2, [], [], 0⟩ t after ops = ⟨2, [], [(t, after, ops)], 0⟩ := by unfold lockS; rw [if_pos h]; rfl
theorem Took.wf {t after : Int} {ops : VL} (h : Took after ops) : WF ⟨2, [], [(t, after, ops)], 0⟩ 2 :=
  ⟨by simp, by simp, by simp, fun i hi => by obtain rfl := List.mem_singleton.1 hi; exact ⟨h.l2, h.nd, h.ok⟩, by simp, by simp⟩
theorem app_its (t after : Int) (ops : VL) : lkL [(t, after, ops)] t = some (after, ops) := by simp [lkL]
theorem Took.appE {t after s : Int} {ops : VL} (h : Took after ops) (ha : 0 ≤ after) (hs : 0 ≤ s) : applyE ⟨2, [], [(t, after, ops)], 0⟩ t s = if after < s ∧ s ≤ 1099511627776 then 0 else 1 := by
  unfold applyE
  dsimp only
  rw [app_its]
  dsimp only
  by_cases h1 : after < s ∧ s ≤ 1099511627776
  · rw [if_pos h1, if_neg (by omega)]
    rw [if_neg (by
      rw [List.any_eq_true]
      rintro ⟨o, ho, hd⟩
      have := of_decide_eq_true hd
      have h0 : lastS (chV [] o.1) = 0 := rfl
      rw [h0] at this; omega), if_neg (by omega)]
  · rw [if_neg h1, if_pos (by omega)]
theorem Took.appS {t after s : Int} {ops : VL} (h : Took after ops) (hE : applyE ⟨2, [], [(t, after, ops)], 0⟩ t s = 0) : applyS ⟨2, [], [(t, after, ops)], 0⟩ t s = ⟨2, ops.map fun o => (o.1, [(s, o.2)]), [], 0⟩ := by
  unfold applyS
  dsimp only
  rw [app_its]
  dsimp only
  rw [if_pos hE, applyC_nil h.nd]
  simp [delL]
theorem Took.wf2 {after s : Int} {ops : VL} (h : Took after ops) : WF ⟨2, ops.map fun o => (o.1, [(s, o.2)]), [], 0⟩ 2 := by
  refine ⟨by simp, by simp, by simp, by simp, by have := h.l2; simp; omega, fun c hc => ?_⟩
  obtain ⟨o, ho, rfl⟩ := List.mem_map.1 hc
  exact ⟨by simp [sortedV], by simp, fun v hv => by obtain rfl := List.mem_singleton.1 hv; exact (h.ok o ho).1⟩
theorem open0 (ch : List (Int × VL)) {s : Int} (hs : 0 ≤ s) (ids : List Int) : openE ⟨2, ch, [], 0⟩ s ids = 0 := by
  unfold openE blockedV
  rw [if_neg (by simp), if_neg (by show ¬ s < 0; omega)]
theorem Took.get {after s : Int} {ops : VL} (h : Took after ops) (hs : 0 < s) {o : Int × List Int} (ho : o ∈ ops) : getV ⟨2, ops.map fun o => (o.1, [(s, o.2)]), [], 0⟩ o.1 s = o.2 := by
  unfold getV
  rw [if_neg (by rw [open0 _ (by omega)]; decide)]
  unfold chV
  dsimp only
  rw [lk_new h.nd ho]
  simp [atV, aftN]
theorem Took.get1 {after s : Int} {ops : VL} (h : Took after ops) (hs : 0 < s) {o : Int × List Int} (ho : o ∈ ops) : getV ⟨2, ops.map fun o => (o.1, [(s, o.2)]), [], 0⟩ o.1 (s - 1) = [] := by
  unfold getV
  rw [if_neg (by rw [open0 _ (by omega)]; decide)]
  unfold chV
  dsimp only
  rw [lk_new h.nd ho]
  have : ¬ s ≤ s - 1 := by omega
  simp [atV, aftN, this]
theorem Took.last {after s m : Int} {ops : VL} (h : Took after ops) (hs : 0 < s) (h1 : ∀ c ∈ (ops.map fun o => (o.1, [(s, o.2)]) : List (Int × VL)), lastS c.2 ≤ m) (h2 : m = 0 ∨ ∃ c ∈ (ops.map fun o => (o.1, [(s, o.2)]) : List (Int × VL)), lastS c.2 = m) : m = s := by
  rcases h2 with rfl | ⟨c, hc, rfl⟩
  · exfalso
    have hl := h.l1
    cases ops with
    | nil => simp at hl
    | cons o ops =>
      have := h1 (o.1, [(s, o.2)]) (by simp)
      simp [lastS] at this
      omega
  · obtain ⟨o, ho, rfl⟩ := List.mem_map.1 hc
    rfl
end Go.Proofs.Ytieejgbjgcbbjaa
