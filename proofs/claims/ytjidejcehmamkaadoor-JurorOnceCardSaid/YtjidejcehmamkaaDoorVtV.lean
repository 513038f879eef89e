/- The vault: what every step keeps. No condition. -/
import Derived.Test.YtjidejcehmamkaaDoorVtR
set_option linter.unusedVariables false
set_option linter.unusedSimpArgs false
namespace Go.Proofs.YtjidejcehmamkaaDoor
open Go Go.SX
attribute [local irreducible] swp opsS thenS blockS retS CallsS St Ent YieldS anyS drawS
structure WFK (st : VS) (n : Nat) : Prop where
  wf : WF st n
  k1 : keysOK st.ch
  k2 : keysOK st.its
theorem WF.mono {st : VS} {n m : Nat} (h : WF st n) (hm : n ≤ m) : WF st m :=
  ⟨h.d1, h.d2, by have := h.il; omega, h.io, by have := h.cl; omega, fun c hc => ⟨(h.co c hc).1, by have := (h.co c hc).2.1; omega, (h.co c hc).2.2⟩⟩
theorem WFK.mono {st : VS} {n m : Nat} (h : WFK st n) (hm : n ≤ m) : WFK st m := ⟨h.wf.mono hm, h.k1, h.k2⟩
theorem WFK.free {st : VS} {n : Nat} (h : WFK st n) (t : Int) : WFK { st with its := delL st.its t } n :=
  ⟨⟨h.wf.d1, h.wf.d2, by have := h.wf.il; have e := List.length_filter_le (fun u : Int × Int × VL => !decide (u.1 = t)) st.its; exact Nat.le_trans e this, fun i hi => h.wf.io i (List.mem_filter.1 hi).1, h.wf.cl, h.wf.co⟩, h.k1, delL_ok h.k2 t⟩
theorem applyC_mem {s : Int} {c : Int × VL} : ∀ {ops : VL} {ch : List (Int × VL)}, keysOK ch → (ops.map (·.1)).Nodup → c ∈ applyC s ch ops → c ∈ ch ∨ ∃ o ∈ ops, c = (o.1, chV ch o.1 ++ [(s, o.2)])
  | [], _, _, _, h => .inl h
  | o :: ops, ch, hk, hn, h => by
    simp only [List.map_cons, List.nodup_cons] at hn
    have hput : ∀ c ∈ putC s ch o, c ∈ ch ∨ c = (o.1, chV ch o.1 ++ [(s, o.2)]) := fun c hc => by
      unfold putC at hc
      rcases keyCase ch hk o.1 with ⟨p, b, q, rfl, hp, hq⟩ | hno
      · rw [putL_mid hp hq] at hc
        rcases List.mem_append.1 hc with hc | hc
        · exact .inl (List.mem_append_left _ hc)
        rcases List.mem_cons.1 hc with hc | hc
        · exact .inr hc
        · exact .inl (List.mem_append_right _ (List.mem_cons_of_mem _ hc))
      · rw [putL_none hno] at hc
        rcases List.mem_append.1 hc with hc | hc
        · exact .inl hc
        · exact .inr (List.mem_singleton.1 hc)
    rcases applyC_mem (s := s) (ops := ops) (putL_ok' hk s o) hn.2 h with h | ⟨o', ho', h⟩
    · rcases hput c h with h | h
      · exact .inl h
      · exact .inr ⟨o, by simp, h⟩
    · refine .inr ⟨o', List.mem_cons_of_mem _ ho', ?_⟩
      have hne : o'.1 ≠ o.1 := fun e => hn.1 (by rw [← e]; exact List.mem_map_of_mem ho')
      have : chV (putC s ch o) o'.1 = chV ch o'.1 := by
        unfold chV putC
        rw [lkL_put hk, if_neg hne]
      rw [h, this]
theorem WFK.apply {st : VS} {n : Nat} (h : WFK st n) (t s : Int) : WFK (applyS st t s) (n + 1) := by
  unfold applyS
  cases hl : lkL st.its t with
  | none => exact h.mono (by omega)
  | some i =>
    dsimp only
    by_cases hE : applyE st t s = 0
    · rw [if_pos hE]
      have hio := h.wf.io _ (lk_memL hl)
      dsimp only at hio
      have hany : ∀ o ∈ i.2, ¬ s ≤ lastS (chV st.ch o.1) := by
        unfold applyE at hE
        rw [hl] at hE
        dsimp only at hE
        by_cases h1 : s = 0 ∨ 1099511627776 < s ∨ s ≤ i.1
        · rw [if_pos h1] at hE; cases hE
        rw [if_neg h1] at hE
        by_cases h2 : (i.2.any fun o => decide (s ≤ lastS (chV st.ch o.1))) = true
        · rw [if_pos h2] at hE; cases hE
        · intro o ho hh
          exact h2 (List.any_eq_true.2 ⟨o, ho, decide_eq_true hh⟩)
      refine ⟨⟨h.wf.d1, h.wf.d2, ?_, fun j hj => h.wf.io j (List.mem_filter.1 hj).1, ?_, fun c hc => ?_⟩, applyC_ok h.k1, delL_ok h.k2 t⟩
      · have e := List.length_filter_le (fun u : Int × Int × VL => !decide (u.1 = t)) st.its
        have := h.wf.il
        have e2 : (delL st.its t).length ≤ st.its.length := e
        dsimp only; omega
      · have e := applyC_len (s := s) (ops := i.2) h.k1
        have := h.wf.cl
        dsimp only; omega
      · rcases applyC_mem h.k1 hio.2.1 hc with hc | ⟨o, ho, rfl⟩
        · have := h.wf.co c hc
          exact ⟨this.1, by omega, this.2.2⟩
        · have hcv : sortedV (chV st.ch o.1) ∧ (chV st.ch o.1).length ≤ n ∧ ∀ v ∈ chV st.ch o.1, v.2.length ≤ 8 := by
            unfold chV
            cases hz : lkL st.ch o.1 with
            | none => exact ⟨List.Pairwise.nil, Nat.zero_le _, by simp⟩
            | some w => exact h.wf.co _ (lk_memL hz)
          have hla := sorted_last hcv.1
          have hs := hany o ho
          refine ⟨?_, by simp; omega, fun v hv => ?_⟩
          · unfold sortedV at hcv ⊢
            rw [List.map_append, List.pairwise_append]
            refine ⟨hcv.1, by simp, fun x hx y hy => ?_⟩
            obtain ⟨w, hw, rfl⟩ := List.mem_map.1 hx
            simp at hy
            subst hy
            have := hla w hw
            omega
          · rcases List.mem_append.1 hv with hv | hv
            · exact hcv.2.2 v hv
            · obtain rfl := List.mem_singleton.1 hv
              exact (hio.2.2 o ho).1
    · rw [if_neg hE]; exact h.mono (by omega)
theorem WFK.lock {st : VS} {n : Nat} (h : WFK st n) (t a : Int) (ops : VL) : WFK (lockS st t a ops) (n + 1) := by
  unfold lockS
  by_cases hE : lockE st t a ops = 0
  · rw [if_pos hE]
    unfold lockE at hE
    by_cases h1 : 1099511627776 < a
    · rw [if_pos h1] at hE; cases hE
    rw [if_neg h1] at hE
    by_cases h2 : checkV st.dim ops ≠ 0
    · rw [if_pos h2] at hE; exact absurd hE h2
    rw [if_neg h2] at hE
    have h2' : checkV st.dim ops = 0 := Decidable.not_not.1 h2
    by_cases h3 : (lkL st.its t).isSome = true
    · rw [if_pos h3] at hE; cases hE
    obtain ⟨_, _, c1, c2, c3, c4⟩ := check_ok h2'
    have hno : lkL st.its t = none := by
      cases hz : lkL st.its t with
      | none => rfl
      | some w => rw [hz] at h3; exact absurd rfl h3
    refine ⟨⟨h.wf.d1, h.wf.d2, ?_, fun i hi => ?_, by have := h.wf.cl; dsimp only; omega, fun c hc => ?_⟩, h.k1, keys_snoc h.k2 _ hno⟩
    · have := h.wf.il
      simp; omega
    · rcases List.mem_append.1 hi with hi | hi
      · exact h.wf.io i hi
      · obtain rfl := List.mem_singleton.1 hi
        exact ⟨c2, c3, c4⟩
    · have := h.wf.co c hc
      exact ⟨this.1, by omega, this.2.2⟩
  · rw [if_neg hE]; exact h.mono (by omega)
theorem sw1_keep {s : Int} {n b : Nat} {u : List (Int × VL) × GL} (hk : keysOK u.1) (hl : u.1.length ≤ b) (hco : ∀ c ∈ u.1, sortedV c.2 ∧ c.2.length ≤ n ∧ ∀ v ∈ c.2, v.2.length ≤ 8) (id : Int) :
    (sw1 s u id).1.length ≤ b ∧ ∀ c ∈ (sw1 s u id).1, sortedV c.2 ∧ c.2.length ≤ n ∧ ∀ v ∈ c.2, v.2.length ≤ 8 := by
  unfold sw1
  dsimp only
  by_cases h0 : ((chV u.1 id).drop (cutN (chV u.1 id) s)).length = 0
  · rw [if_pos h0]
    refine ⟨Nat.le_trans (List.length_filter_le (fun x : Int × VL => !decide (x.1 = id)) u.1) hl, fun c hc => hco c (List.mem_filter.1 hc).1⟩
  · rw [if_neg h0]
    generalize cutN (chV u.1 id) s = k at h0 ⊢
    cases hz : lkL u.1 id with
    | none =>
      exfalso
      apply h0
      unfold chV
      rw [hz]; simp
    | some vs =>
      have hcv : chV u.1 id = vs := by unfold chV; rw [hz]; rfl
      have hm := hco _ (lk_memL hz)
      rw [hcv]
      rcases keyCase u.1 hk id with ⟨p, w, q, e, hp, hq⟩ | hno
      · rw [e, putL_mid hp hq]
        refine ⟨by rw [e] at hl; simpa using hl, fun c hc => ?_⟩
        have hsub : ∀ c, c ∈ p ∨ c ∈ q → sortedV c.2 ∧ c.2.length ≤ n ∧ ∀ v ∈ c.2, v.2.length ≤ 8 := fun c hc => hco c (by
          rw [e]
          rcases hc with hc | hc
          · exact List.mem_append_left _ hc
          · exact List.mem_append_right _ (List.mem_cons_of_mem _ hc))
        rcases List.mem_append.1 hc with hc | hc
        · exact hsub c (.inl hc)
        rcases List.mem_cons.1 hc with rfl | hc
        · refine ⟨?_, ?_, fun v hv => hm.2.2 v (List.mem_of_mem_drop hv)⟩
          · have := hm.1
            unfold sortedV at this ⊢
            rw [List.map_drop]
            exact this.sublist (List.drop_sublist _ _)
          · have := hm.2.1
            dsimp only at this ⊢
            rw [List.length_drop]; omega
        · exact hsub c (.inr hc)
      · rw [lkL_none hno] at hz; cases hz
theorem swF_keep {s : Int} {n b : Nat} : ∀ {ks : List Int} {u : List (Int × VL) × GL}, keysOK u.1 → u.1.length ≤ b → (∀ c ∈ u.1, sortedV c.2 ∧ c.2.length ≤ n ∧ ∀ v ∈ c.2, v.2.length ≤ 8) →
    (ks.foldl (sw1 s) u).1.length ≤ b ∧ ∀ c ∈ (ks.foldl (sw1 s) u).1, sortedV c.2 ∧ c.2.length ≤ n ∧ ∀ v ∈ c.2, v.2.length ≤ 8
  | [], _, _, hl, hc => ⟨hl, hc⟩
  | k :: ks, u, hk, hl, hc => by
    have := sw1_keep (s := s) hk hl hc k
    exact swF_keep (ks := ks) (sw1_ok hk k) this.1 this.2
theorem WFK.sweep {st : VS} {n : Nat} (h : WFK st n) (s : Int) : WFK (sweepS st s) n := by
  unfold sweepS
  by_cases h1 : min s 1099511627776 ≤ st.mark
  · rw [if_pos h1]; exact h
  · rw [if_neg h1]
    have hk := swF_keep (s := min s 1099511627776) (n := n) (b := 16 * n) (ks := swIds st.ch) (u := (st.ch, [])) h.k1 h.wf.cl h.wf.co
    exact ⟨⟨h.wf.d1, h.wf.d2, h.wf.il, h.wf.io, hk.1, hk.2⟩, swF_ok (u := (st.ch, [])) h.k1, h.k2⟩
end Go.Proofs.YtjidejcehmamkaaDoor
