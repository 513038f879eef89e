/- The vault: what every step keeps. No condition. -/
import Derived.Test.YtieejgbjgcbbjaaVtU
set_option linter.unusedVariables false
set_option linter.unusedSimpArgs false
namespace Go.Proofs.Ytieejgbjgcbbjaa
open Go Go.SX
attribute [local irreducible] swp opsS thenS blockS retS CallsS St Ent YieldS anyS drawS
structure WFK (st : VS) (n : Nat) : Prop where
  wf : WF st n
  k1 : keysOK st.ch
  k2 : keysOK st.its
theorem WF.mono {st : VS} {n m : Nat} (h : WF st n) (hm : n ≤ m) : WF st m :=
  ⟨h.d1, h.d2, by have := h.il; omega, h.io, by have := h.cl; omega, fun c hc => ⟨(h.co c hc).1, by have := (h.co c hc).2.1; omega, (h.co c hc).2.2⟩⟩
theorem WFK.mono {st : VS} {n m : Nat} (h : WFK st n) (hm : n ≤ m) : WFK st m := ⟨h.wf.mono hm, h.k1, h.k2⟩
theorem WFK.free {st : VS} {n : Nat} (h : WFK st n) (t : Int) : WFK { st with its := delL st.its t } n :=
  ⟨⟨h.wf.d1, h.wf.d2, by have := h.wf.il; have e := List.length_filter_le (fun u : Int × Int × VL => !decide (u.1 = t)) st.its; exact Nat.le_trans e this, fun i hi => h.wf.io i (List.mem_filter.1 hi).1, h.wf.cl, h.wf.co⟩, h.k1, delL_ok h.k2 t⟩
theorem applyC_mem {s : Int} {c : Int × VL} : ∀ {ops : VL} {ch : List (Int × VL)}, keysOK ch → (ops.map (·.1)).Nodup → c ∈ applyC s ch ops → c ∈ ch ∨ ∃ o ∈ ops, c = (o.1, chV ch o.1 ++ [(s, o.2)])
  | [], _, _, _, h => .inl h
  | o :: ops, ch, hk, hn, h => by
    simp only [List.map_cons, List.nodup_cons] at hn
    have hput : ∀ c ∈ putC s ch o, c ∈ ch ∨ c = (o.1, chV ch o.1 ++ [(s, o.2)]) := fun c hc => by
      unfold putC at hc
      rcases keyCase ch hk o.1 with ⟨p, b, q, rfl, hp, hq⟩ | hno
      · rw [putL_mid hp hq] at hc
        rcases List.mem_append.1 hc with hc | hc
        · exact .inl (List.mem_append_left _ hc)
        rcases List.mem_cons.1 hc with hc | hc
        · exact .inr hc
        · exact .inl (List.mem_append_right _ (List.mem_cons_of_mem _ hc))
      · rw [putL_none hno] at hc
        rcases List.mem_append.1 hc with hc | hc
        · exact .inl hc
        · exact .inr (List.mem_singleton.1 hc)
    rcases applyC_mem (s := s) (ops := ops) (putL_ok' hk s o) hn.2 h with h | ⟨o', ho', h⟩
    · rcases hput c h with h | h
      · exact .inl h
      · exact .inr ⟨o, by simp, h⟩
    · refine .inr ⟨o', List.mem_cons_of_mem _ ho', ?_⟩
      have hne : o'.1 ≠ o.1 := fun e => hn.1 (by rw [← e]; exact List.mem_map_of_mem ho')
      have : chV (putC s ch o) o'.1 = chV ch o'.1 := by
        unfold chV putC
        rw [lkL_put hk, if_neg hne]
      rw [h, this]
theorem WFK.apply {st : VS} {n : Nat} (h : WFK st n) (t s : Int) : WFK (applyS st t s) (n + 1) := by
  unfold applyS
  cases hl : lkL st.its t with
  | none => exact h.mono (by omega)
  | some i =>
    dsimp only
    by_cases hE : applyE st t s = 0
    · rw [if_pos hE]
      have hio := h.wf.io _ (lk_memL hl)
      dsimp only at hio
      have hany : ∀ o ∈ i.2, ¬ s ≤ lastS (chV st.ch o.1) := by
        unfold applyE at hE
        rw [hl] at hE
        dsimp only at hE
        by_cases h1 : s = 0 ∨ 1099511627776 < s ∨ s ≤ i.1
        · rw [if_pos h1] at hE; cases hE
        rw [if_neg h1] at hE
        by_cases h2 : (i.2.any fun o => decide (s ≤ lastS (chV st.ch o.1))) = true
        · rw [if_pos h2] at hE; cases hE
        · intro o ho hh
          exact h2 (List.any_eq_true.2 ⟨o, ho, decide_eq_true hh⟩)
      refine ⟨⟨h.wf.d1, h.wf.d2, ?_, fun j hj => h.wf.io j (List.mem_filter.1 hj).1, ?_, fun c hc => ?_⟩, applyC_ok h.k1, delL_ok h.k2 t⟩
      · have e := List.length_filter_le (fun u : Int × Int × VL => !decide (u.1 = t)) st.its
        have := h.wf.il
        have e2 : (delL st.its t).length ≤ st.its.length := e
        dsimp only; omega
      · have e := applyC_len (s := s) (ops := i.2) h.k1
        have := h.wf.cl
        dsimp only; omega
      · rcases applyC_mem h.k1 hio.2.1 hc with hc | ⟨o, ho, rfl⟩
        · have := h.wf.co c hc
          exact ⟨this.1, by omega, this.2.2⟩
        · have hcv : sortedV (chV st.ch o.1) ∧ (chV st.ch o.1).length ≤ n ∧ ∀ v ∈ chV st.ch o.1, v.2.length ≤ 8 := by
            unfold chV
            cases hz : lkL st.ch o.1 with
            | none => exact ⟨List.Pairwise.nil, Nat.zero_le _, by simp⟩
            | some w => exact h.wf.co _ (lk_memL hz)
          have hla := sorted_last hcv.1
          have hs := hany o ho
          refine ⟨?_, by simp; omega, fun v hv => ?_⟩
          · unfold sortedV at hcv ⊢
            rw [List.map_append, List.pairwise_append]
            refine ⟨hcv.1, by simp, fun x hx y hy => ?_⟩
            obtain ⟨w, hw, rfl⟩ := List.mem_map.1 hx
            simp at hy
            subst hy
            have := hla w hw
            omega
          · rcases List.mem_append.1 hv with hv | hv
            · exact hcv.2.2 v hv
            · obtain rfl := List.mem_singleton.1 hv
              exact (hio.2.2 o ho).1
    · rw [if_neg hE]; exact h.mono (by omega)
theorem WFK.lock {st : VS} {n : Nat} (h : WFK st n) (t a : Int) (ops : VL) : WFK (lockS st t a ops) (n + 1) := by
  unfold lockS
  by_cases hE : lockE st t a ops = 0
  · rw [if_pos hE]
    unfold lockE at hE
    by_cases h1 : 1099511627776 < a
    · rw [if_pos h1] at hE; cases hE
    rw [if_neg h1] at hE
    by_cases h2 : checkV st.dim ops ≠ 0
    · rw [if_pos h2] at hE; exact absurd hE h2
    rw [if_neg h2] at hE
    have h2' : checkV st.dim ops = 0 := Decidable.not_not.1 h2
    by_cases h3 : (lkL st.its t).isSome = true
    · rw [if_pos h3] at hE; cases hE
    obtain ⟨_, _, c1, c2, c3, c4⟩ := check_ok h2'
    have hno : lkL st.its t = none := by
      cases hz : lkL st.its t with
      | none => rfl
      | some w => rw [hz] at h3; exact absurd rfl h3
    refine ⟨⟨h.wf.d1, h.wf.d2, ?_, fun i hi => ?_, by have := h.wf.cl; dsimp only; omega, fun c hc => ?_⟩, h.k1, keys_snoc h.k2 _ hno⟩
    · have := h.wf.il
      simp; omega
    · rcases List.mem_append.1 hi with hi | hi
      · exact h.wf.io i hi
      · obtain rfl := List.mem_singleton.1 hi
        exact ⟨c2, c3, c4⟩
    · have := h.wf.co c hc
      exact ⟨this.1, by omega, this.2.2⟩
  · rw [if_neg hE]; exact h.mono (by omega)
theorem sw1_keep {s : Int} {n b : Nat} {u : List (Int × VL) × GL} (hk : keysOK u.1) (hl : u.1.length ≤ b) (hco : ∀ c ∈ u.1, sortedV c.2 ∧ c.2.length ≤ n ∧ ∀ v ∈ c.2, v.2.length ≤ 8) (id : Int) :
    (sw1 s u id).1.length ≤ b ∧ ∀ c ∈ (sw1 s u id).1, sortedV c.2 ∧ c.2.length ≤ n ∧ ∀ v ∈ c.2, v.2.length ≤ 8 := by
  unfold sw1
  dsimp only
  by_cases h0 : ((chV u.1 id).drop (cutN (chV u.1 id) s)).length = 0
  · rw [if_pos h0]
    refine ⟨Nat.le_trans (List.length_filter_le (fun x : Int × VL => !decide (x.1 = id)) u.1) hl, fun c hc => hco c (List.mem_filter.1 hc).1⟩
  · rw [if_neg h0]
    generalize cutN (chV u.1 id) s = k at h0 ⊢
    cases hz : lkL u.1 id with
    | none =>
      exfalso
      apply h0
      unfold chV
      rw [hz]; simp
    | some vs =>
      have hcv : chV u.1 id = vs := by unfold chV; rw [hz]; rfl
      have hm := hco _ (lk_memL hz)
      rw [hcv]
      rcases keyCase u.1 hk id with ⟨p, w, q, e, hp, hq⟩ | hno
      · rw [e, putL_mid hp hq]
        refine ⟨by rw [e] at hl; simpa using hl, fun c hc => ?_⟩
        have hsub : ∀ c, c ∈ p ∨ c ∈ q → sortedV c.2 ∧ c.2.length ≤ n ∧ ∀ v ∈ c.2, v.2.length ≤ 8 := fun c hc => hco c (by
          rw [e]
          rcases hc with hc | hc
          · exact List.mem_append_left _ hc
          · exact List.mem_append_right _ (List.mem_cons_of_mem _ hc))
        rcases List.mem_append.1 hc with hc | hc
        · exact hsub c (.inl hc)
        rcases List.mem_cons.1 hc with rfl | hc
        · refine ⟨?_, ?_, fun v hv => hm.2.2 v (List.mem_of_mem_drop hv)⟩
          · have := hm.1
            unfold sortedV at this ⊢
            rw [List.map_drop]
            exact this.sublist (List.drop_sublist _ _)
          · have := hm.2.1
            dsimp only at this ⊢
            rw [List.length_drop]; omega
        · exact hsub c (.inr hc)
      · rw [lkL_none hno] at hz; cases hz
theorem swF_keep {s : Int} {n b : Nat} : ∀ {ks : List Int} {u : List (Int × VL) × GL}, keysOK u.1 → u.1.length ≤ b → (∀ c ∈ u.1, sortedV c.2 ∧ c.2.length ≤ n ∧ ∀ v ∈ c.2, v.2.length ≤ 8) →
    (ks.foldl (sw1 s) u).1.length ≤ b ∧ ∀ c ∈ (ks.foldl (sw1 s) u).1, sortedV c.2 ∧ c.2.length ≤ n ∧ ∀ v ∈ c.2, v.2.length ≤ 8
  | [], _, _, hl, hc => ⟨hl, hc⟩
  | k :: ks, u, hk, hl, hc => by
    have := sw1_keep (s := s) hk hl hc k
    exact swF_keep (ks := ks) (sw1_ok hk k) this.1 this.2
theorem WFK.sweep {st : VS} {n : Nat} (h : WFK st n) (s : Int) : WFK (sweepS st s) n := by
  unfold sweepS
  by_cases h1 : min s 1099511627776 ≤ st.mark
  · rw [if_pos h1]; exact h
  · rw [if_neg h1]
    have hk := swF_keep (s := min s 1099511627776) (n := n) (b := 16 * n) (ks := swIds st.ch) (u := (st.ch, [])) h.k1 h.wf.cl h.wf.co
    exact ⟨⟨h.wf.d1, h.wf.d2, h.wf.il, h.wf.io, hk.1, hk.2⟩, swF_ok (u := (st.ch, [])) h.k1, h.k2⟩
theorem WFK.do_ {st : VS} {n : Nat} (h : WFK st n) (o : DV) : WFK (doS st o) (n + 1) := by
  unfold doS
  split
  · exact (h.free _).mono (by omega)
  split
  · exact h.apply _ _
  split
  · exact (h.sweep _).mono (by omega)
  · exact h.lock _ _ _
end Go.Proofs.Ytieejgbjgcbbjaa
/- The vault: what Intents gives. No condition. -/
set_option linter.unusedVariables false
set_option linter.unusedSimpArgs false
namespace Go.Proofs.Ytieejgbjgcbbjaa
open Go Go.SX
attribute [local irreducible] swp opsS thenS blockS retS CallsS St Ent YieldS anyS drawS
set_option maxHeartbeats 1000000 in
theorem Intents_spec (v : Nat) (st : VS) (n : Nat) (Mc : Nat → Option Obj) (L : List HP) (hw : WF st n) (hn : n ≤ 10000) :
    CallsS Try.prog 12 [ptrV v] (vaultH v st :: roM Mc :: L) (fun r L' => ∃ (a : Option Addr) (c : Nat) (es : List IV) (M' : Nat → Option Obj), r = .slice a es.length c ∧ leM Mc M' ∧ SlM M' a es.length 3 (es.flatMap IV.cells) ∧ (∀ e ∈ es, okI M' e) ∧ (es.map (·.txn)).Nodup ∧ (∀ e ∈ es, e.abs ∈ st.its) ∧ L' = vaultH v st :: roM M' :: L) := by
  refine calls_vault fun mc mi M cs is hok => ?_
  have hcl : is.length = st.its.length := by rw [← hok.its]; simp
  have hcn : is.length ≤ n := by rw [hcl]; exact hw.il
  refine CallsS.of_body Try.func12 rfl rfl rfl ?_
  repeat (first | (refine GQ.y ?_; refine Q.y ?_) | refine Q.go ?_ | (refine GQ.g ?_; refine Q.gq ?_) | (refine GQ.s ?_; refine Q.st ?_) | (refine GQ.g ?_; refine Q.gd ?_) | refine Q.ct rfl ?_ | refine Q.cf rfl ?_ | (refine GQ.a ?_; refine Q.al (fun b1 => ?_)))
  refine S.cr rfl (MapKeysI_spec (some mi) _) ?_
  rintro _ _ ⟨bm, rfl, rfl⟩
  repeat (first | (refine GQ.y ?_; refine Q.y ?_) | refine Q.go ?_ | (refine GQ.g ?_; refine Q.gq ?_) | (refine GQ.s ?_; refine Q.st ?_) | (refine GQ.g ?_; refine Q.gd ?_) | refine Q.ct rfl ?_ | refine Q.cf rfl ?_ | (refine GQ.a ?_; refine Q.al (fun b1 => ?_)))
  have hs := KeysI_spec IV.val bm mi (is.map fun i => (i.txn, i)) (roM Mc :: vP v mc mi st.dim st.mark :: vC mc cs :: chsH M cs :: roM M :: L)
  rw [List.length_map, List.map_map] at hs
  refine opsS_ent (L' := pt bm (cl [.map (some mi)] 84) :: vI mi is :: roM Mc :: vP v mc mi st.dim st.mark :: vC mc cs :: chsH M cs :: roM M :: L) (by repeat (first | exact Ent.refl _ | exact Ent.nil | refine Ent.pick ?_ | refine Ent.nilS ?_ | refine Ent.nilM ?_ | refine Ent.drop ?_)) ?_
  refine S.cr rfl (Sorted_spec _ _ (is.map (·.txn)) _ _ (by rw [List.length_map]; omega) (by rw [List.length_map]; exact hs)) ?_
  rintro _ _ ⟨a, c, rfl, rfl⟩
  rw [List.length_map]
  repeat (first | (refine GQ.y ?_; refine Q.y ?_) | refine Q.go ?_ | (refine GQ.g ?_; refine Q.gq ?_) | (refine GQ.s ?_; refine Q.st ?_) | (refine GQ.g ?_; refine Q.gd ?_) | refine Q.ct rfl ?_ | refine Q.cf rfl ?_ | (refine GQ.a ?_; refine Q.al (fun b1 => ?_)))
  obtain ⟨ks, hks⟩ : ∃ ks, ks = sortL (is.map (·.txn)) := ⟨_, rfl⟩
  have hkl : ks.length = is.length := by rw [hks, sortL_len, List.length_map]
  rw [← hks]
  have hkm : ∀ x ∈ ks, ∃ u ∈ is, u.txn = x := fun x hx => by
    rw [hks] at hx
    obtain ⟨u, hu, e⟩ := List.mem_map.1 ((sortL_perm _).mem_iff.1 hx)
    exact ⟨u, hu, e⟩
  have hknd : ks.Nodup := by
    rw [hks]
    refine (sortL_perm _).nodup_iff.2 ?_
    have := hok.k2
    unfold keysOK at this
    rw [← hok.its, List.map_map] at this
    exact this
  clear hks hs
  refine swp_addr a (fun ha => ?_)
  rw [← hkl] at ha ⊢
  refine swp_cutB (σ := Option Addr × Nat × List IV × (Nat → Option Obj)) (fun u => [(3, .slice u.1 u.2.2.1.length u.2.1)]) (fun u => slO 44 3 u.1 u.2.2.1.length u.2.1 (u.2.2.1.flatMap IV.cells) :: roM u.2.2.2 :: vP v mc mi st.dim st.mark :: vC mc cs :: vI mi is :: chsH M cs :: roM M :: L) (fun u => leM Mc u.2.2.2 ∧ u.2.2.1.map (·.txn) = ks ∧ ∀ e ∈ u.2.2.1, okI u.2.2.2 e ∧ e.abs ∈ st.its) ?_ ?_
  · refine swp_loop (σ := Nat × Option Addr × Nat × List IV × (Nat → Option Obj)) (fun u => [(0, ptrV v), (13, .slice a ks.length c), (14, .int .i64 ks.length), (3, .slice u.2.1 u.2.2.2.1.length u.2.2.1), (15, .int .i64 u.1)])
      (fun u => slO 23 1 a ks.length c (ks.map U64) :: slO 44 3 u.2.1 u.2.2.2.1.length u.2.2.1 (u.2.2.2.1.flatMap IV.cells) :: roM u.2.2.2.2 :: vP v mc mi st.dim st.mark :: vC mc cs :: vI mi is :: chsH M cs :: roM M :: L)
      (fun u => u.1 ≤ ks.length ∧ leM Mc u.2.2.2.2 ∧ u.2.2.2.1.map (·.txn) = ks.take u.1 ∧ ∀ e ∈ u.2.2.2.1, okI u.2.2.2.2 e ∧ e.abs ∈ st.its) (fun u => ks.length - u.1) (0, none, 0, [], Mc) ⟨rfl, rfl, rfl, rfl, rfl, trivial⟩ ?_ ⟨by omega, leM.refl Mc, by simp, by simp⟩ ?_
    · refine Ent.cons (Ent.trans ?_ slO_nil)
      repeat (first | exact Ent.refl _ | exact Ent.nil | refine Ent.pick ?_ | refine Ent.nilS ?_ | refine Ent.nilM ?_ | refine Ent.drop ?_)
    rintro ⟨k, a3, c3, es, M1⟩ ⟨hk, hl1, hes, hall⟩
    dsimp only at hk hl1 hes hall ⊢
    have hesl : es.length = k := by
      have := congrArg List.length hes
      simp at this; omega
    by_cases hlt : k < ks.length
    · obtain ⟨x, hx⟩ := mem_get hlt
      obtain ⟨u, hu, hux⟩ := hkm x (List.mem_of_getElem? hx)
      rcases ha with ha | ⟨b, rfl⟩
      · omega
      cases hz : lkL (is.map fun i => (i.txn, i)) x with
      | none => exact absurd hux (lk_none' hz _ (List.mem_map_of_mem (f := fun i : IV => (i.txn, i)) hu))
      | some y =>
        obtain ⟨hmy, hyt⟩ := lk_mem hz
        have hrs : RdS (slO 23 1 (some ⟨b, 0, none⟩) ks.length c (ks.map U64) :: slO 44 3 a3 es.length c3 (es.flatMap IV.cells) :: roM M1 :: vP v mc mi st.dim st.mark :: vC mc cs :: vI mi is :: chsH M cs :: roM M :: L) (some ⟨b, 0, none⟩) ks.length 1 (ks.flatMap cU) := by
          rw [flat_U]; exact RdS.ofS (by simp) (.inr ⟨b, rfl⟩)
        obtain ⟨b', o', hbo, hr⟩ := RdS.elem (g := cU) (fun _ => rfl) hrs hx rfl
        cases hbo
        clear hrs
        have hyi : y.abs ∈ st.its := by rw [← hok.its]; exact List.mem_map_of_mem hmy
        have hio := hw.io y.abs hyi
        have hyl : y.ops.length ≤ 16 := by simpa using hio.1
        repeat (first | (refine GQ.y ?_; refine Q.y ?_) | refine Q.go ?_ | (refine GQ.g ?_; refine Q.gq ?_) | (refine GQ.s ?_; refine Q.st ?_) | (refine GQ.g ?_; refine Q.gd ?_) | refine Q.ct rfl ?_ | refine Q.cf rfl ?_ | (refine GQ.a ?_; refine Q.al (fun b1 => ?_)))
        refine S.y (Y.lk false rfl rfl (fun w => Try.zeroValue44 w)) ?_
        rw [hz]
        dsimp only
        refine S.cr rfl (copyOf_spec y _ ((hok.ok y hmy).rd) (by omega) (fun o ho => by have := (hio.2.2 o.abs (List.mem_map_of_mem (f := OV.abs) ho)).1; dsimp only at this; omega)) ?_
        rintro _ _ ⟨a5, c5, us, hus, rfl, rfl⟩
        refine opsS_abs a5 (fun M2 hl2 hs2 => ?_)
        refine opsS_absV us (fun M3 hl3 hs3 => ?_)
        repeat (first | (refine GQ.y ?_; refine Q.y ?_) | refine Q.go ?_ | (refine GQ.g ?_; refine Q.gq ?_) | (refine GQ.s ?_; refine Q.st ?_) | (refine GQ.g ?_; refine Q.gd ?_) | refine Q.ct rfl ?_ | refine Q.cf rfl ?_ | (refine GQ.a ?_; refine Q.al (fun b1 => ?_)))
        refine S.app rfl rfl (SrcS.sl RdC.row (by rfl) (by rfl)) (by rfl) (by omega) (by omega) (fun a4 c4 => ?_)
        repeat (first | (refine GQ.y ?_; refine Q.y ?_) | refine Q.go ?_ | (refine GQ.g ?_; refine Q.gq ?_) | (refine GQ.s ?_; refine Q.st ?_) | (refine GQ.g ?_; refine Q.gd ?_) | refine Q.ct rfl ?_ | refine Q.cf rfl ?_ | (refine GQ.a ?_; refine Q.al (fun b1 => ?_)))
        refine ⟨(k + 1, a4, c4, es ++ [⟨y.txn, y.after, a5, c5, us⟩], M3), ⟨rfl, rfl, rfl, congrArg some (by simp), rfl, trivial⟩, ?_, ⟨by dsimp only; omega, hl1.trans (hl2.trans hl3), ?_, fun e he => ?_⟩, by dsimp only; omega⟩
        · dsimp only
          rw [len_snoc, flat_snoc]
          repeat (first | exact Ent.refl _ | exact Ent.nil | refine Ent.pick ?_ | refine Ent.nilS ?_ | refine Ent.nilM ?_ | refine Ent.drop ?_)
        · dsimp only
          rw [List.map_append, hes, take_snoc hx, List.map_cons, List.map_nil, hyt]
        · rcases List.mem_append.1 he with he | he
          · exact ⟨(hall e he).1.mono (hl2.trans hl3), (hall e he).2⟩
          · obtain rfl := List.mem_singleton.1 he
            exact ⟨⟨hs2.mono hl3, hs3⟩, by show (y.txn, y.after, us.map OV.abs) ∈ st.its; rw [hus]; exact hyi⟩
    · have hke : k = ks.length := by omega
      subst hke
      rw [List.take_length] at hes
      repeat (first | (refine GQ.y ?_; refine Q.y ?_) | refine Q.go ?_ | (refine GQ.g ?_; refine Q.gq ?_) | (refine GQ.s ?_; refine Q.st ?_) | (refine GQ.g ?_; refine Q.gd ?_) | refine Q.ct rfl ?_ | refine Q.cf rfl ?_ | (refine GQ.a ?_; refine Q.al (fun b1 => ?_)))
      exact ⟨(a3, c3, es, M1), ⟨congrArg some (by simp), trivial⟩, by repeat (first | exact Ent.refl _ | exact Ent.nil | refine Ent.pick ?_ | refine Ent.nilS ?_ | refine Ent.nilM ?_ | refine Ent.drop ?_), hl1, hes, hall⟩
  rintro ⟨a3, c3, es, M1⟩ ⟨hl1, hes, hall⟩
  dsimp only at hl1 hes hall ⊢
  refine swp_abs a3 (fun M2 hl2 hs2 => ?_)
  repeat (first | (refine GQ.y ?_; refine Q.y ?_) | refine Q.go ?_ | (refine GQ.g ?_; refine Q.gq ?_) | (refine GQ.s ?_; refine Q.st ?_) | (refine GQ.g ?_; refine Q.gd ?_) | refine Q.ct rfl ?_ | refine Q.cf rfl ?_ | (refine GQ.a ?_; refine Q.al (fun b1 => ?_)))
  refine N.r1 (RV.tmp rfl RV.nil) ?_ ⟨a3, c3, es, M2, rfl, hl1.trans hl2, hs2, fun e he => (hall e he).1.mono hl2, by rw [hes]; exact hknd, fun e he => (hall e he).2, rfl⟩
  refine Ent.trans ?_ (vault_shut (mc := mc) (mi := mi) hok)
  repeat (first | exact Ent.refl _ | exact Ent.nil | refine Ent.pick ?_ | refine Ent.nilS ?_ | refine Ent.nilM ?_ | refine Ent.drop ?_)
end Go.Proofs.Ytieejgbjgcbbjaa
/- VaultHolds: what is kept; the law, walked. No condition. -/
set_option linter.unusedVariables false
set_option linter.unusedSimpArgs false
namespace Go.Proofs.Ytieejgbjgcbbjaa
open Go Go.SX
attribute [local irreducible] swp opsS thenS blockS retS CallsS St Ent YieldS anyS drawS
/-- No ID is held twice. -/
def DJ (st : VS) : Prop := ∀ i ∈ st.its, ∀ j ∈ st.its, i.1 ≠ j.1 → ∀ x ∈ i.2.2.map (·.1), x ∉ j.2.2.map (·.1)
theorem DJ.sub {st st' : VS} (h : DJ st) (hs : ∀ i ∈ st'.its, i ∈ st.its) : DJ st' := fun i hi j hj => h i (hs i hi) j (hs j hj)
theorem DJ.do_ {st : VS} (h : DJ st) (o : DV) : DJ (doS st o) := by
  unfold doS
  split
  · exact h.sub fun i hi => (List.mem_filter.1 hi).1
  split
  · unfold applyS
    split
    · exact h
    · split
      · exact h.sub fun i hi => (List.mem_filter.1 hi).1
      · exact h
  split
  · unfold sweepS
    split
    · exact h
    · exact h
  · unfold lockS
    by_cases hE : lockE st o.txn o.after (fewV 18 (o.ops.map OV.abs)) = 0
    · rw [if_pos hE]
      generalize fewV 18 (o.ops.map OV.abs) = ops at hE ⊢
      unfold lockE at hE
      by_cases h1 : 1099511627776 < o.after
      · rw [if_pos h1] at hE; cases hE
      rw [if_neg h1] at hE
      by_cases h2 : checkV st.dim ops ≠ 0
      · rw [if_pos h2] at hE; exact absurd hE h2
      rw [if_neg h2] at hE
      by_cases h3 : (lkL st.its o.txn).isSome = true
      · rw [if_pos h3] at hE; cases hE
      rw [if_neg h3] at hE
      have hfree : ∀ i ∈ st.its, ∀ x ∈ ops.map (·.1), x ∉ i.2.2.map (·.1) := by
        intro i hi x hx hx2
        obtain ⟨w, hw, rfl⟩ := List.mem_map.1 hx
        obtain ⟨u, hu, hux⟩ := List.mem_map.1 hx2
        have : (ops.any fun o => st.its.any fun i => holdsV i.2.2 o.1) = true := List.any_eq_true.2 ⟨w, hw, List.any_eq_true.2 ⟨i, hi, List.any_eq_true.2 ⟨u, hu, decide_eq_true hux⟩⟩⟩
        rw [if_pos this] at hE
        cases hE
      intro i hi j hj hij x hx
      rcases List.mem_append.1 hi with hi | hi
      · rcases List.mem_append.1 hj with hj | hj
        · exact h i hi j hj hij x hx
        · obtain rfl := List.mem_singleton.1 hj
          exact fun hx2 => hfree i hi x hx2 hx
      · obtain rfl := List.mem_singleton.1 hi
        rcases List.mem_append.1 hj with hj | hj
        · exact hfree j hj x hx
        · obtain rfl := List.mem_singleton.1 hj
          exact absurd rfl hij
    · rw [if_neg hE]; exact h
abbrev idsI (e : IV) : List Int := e.ops.map (·.id)
theorem ids_nodup : ∀ {es : List IV}, (es.map (·.txn)).Nodup → (∀ e ∈ es, (idsI e).Nodup) → (∀ e ∈ es, ∀ f ∈ es, e.txn ≠ f.txn → ∀ x ∈ idsI e, x ∉ idsI f) → (es.flatMap idsI).Nodup
  | [], _, _, _ => List.nodup_nil
  | e :: es, h1, h2, h3 => by
    simp only [List.map_cons, List.nodup_cons] at h1
    rw [List.flatMap_cons, List.nodup_append]
    refine ⟨h2 e (by simp), ids_nodup h1.2 (fun f hf => h2 f (List.mem_cons_of_mem _ hf)) (fun f hf g hg => h3 f (List.mem_cons_of_mem _ hf) g (List.mem_cons_of_mem _ hg)), fun x hx y hy hxy => ?_⟩
    subst hxy
    obtain ⟨f, hf, hy⟩ := List.mem_flatMap.1 hy
    have hne : e.txn ≠ f.txn := fun he => h1.1 (by rw [he]; exact List.mem_map_of_mem hf)
    exact h3 e (by simp) f (List.mem_cons_of_mem _ hf) hne x hx hy
theorem lock_one {st : VS} {n : Nat} (hw : WF st n) (t j : Int) (hj : j ≤ 12) : lockE st t 0 [(j, [])] = if (lkL st.its t).isSome then 7 else if (st.its.any fun i => holdsV i.2.2 j) then 11 else 0 := by
  have hc : checkV st.dim [(j, [])] = 0 := by
    unfold checkV
    have := hw.d1
    have := hw.d2
    rw [if_neg (by omega), if_neg (by simp), if_neg (by simp), if_neg (by simp [badO]; omega), if_pos (by simp)]
  unfold lockE
  rw [if_neg (by decide), if_neg (by rw [hc]; simp)]
  rw [List.any_cons, List.any_nil, Bool.or_false]
theorem del_last {its : List (Int × Int × VL)} {t a : Int} {ops : VL} (h : lkL its t = none) : delL (its ++ [(t, a, ops)]) t = its := by
  unfold delL
  rw [List.filter_append, List.filter_eq_self.2 (fun u hu => by have := lk_none' h u hu; simpa using this)]
  simp
theorem opsS_ref (p : Nat) {n : Nat} {ops rest : List Oper} {Q : Post} {f : Env} {L L0 : List HP} {st : VS} [hp : PickR p L st L0] (h : ∀ M a c es a' c' is, ROK M st a c es a' c' is → opsS Try.prog n ops rest Q f (rP p st.dim a es c a' is c' st.mark :: roM M :: L0)) : opsS Try.prog n ops rest Q f L :=
  opsS_ent hp.ent (opsS_ex fun x => opsS_all (opsS_pure fun hx => h x.M x.a x.c x.es x.a' x.c' x.is hx))
set_option maxHeartbeats 4000000 in
theorem VaultHolds_spec (a : Option Addr) (c : Nat) (xs : List DV) (t : Int) (M : Nat → Option Obj) (h : SlM M a xs.length 8 (xs.flatMap DV.cells)) (hx : ∀ o ∈ xs, (SlM M o.a o.ops.length 2 (o.ops.flatMap OV.cells) ∧ okR M o.ops) ∧ (∀ u ∈ o.ops, u.vec.length ≤ u.c) ∧ o.ops.length ≤ 9223372036854775807 ∧ 0 ≤ o.stamp) (hn : xs.length ≤ 9223372036854775807) :
    CallsS Try.prog 3 [.slice a xs.length c, .int .u64 t] [roM M] (fun v _ => v = .bool true) := by
  refine CallsS.of_body Try.func3 rfl rfl rfl ?_
  repeat (first | (refine GQ.y ?_; refine Q.y ?_) | refine Q.go ?_ | (refine GQ.g ?_; refine Q.gq ?_) | (refine GQ.s ?_; refine Q.st ?_) | (refine GQ.g ?_; refine Q.gd ?_) | refine Q.ct rfl ?_ | refine Q.cf rfl ?_ | (refine GQ.a ?_; refine Q.al (fun b1 => ?_)))
  refine S.cr rfl (awake_spec _) ?_
  rintro _ _ ⟨rfl, rfl⟩
  repeat (first | (refine GQ.y ?_; refine Q.y ?_) | refine Q.go ?_ | (refine GQ.g ?_; refine Q.gq ?_) | (refine GQ.s ?_; refine Q.st ?_) | (refine GQ.g ?_; refine Q.gd ?_) | refine Q.ct rfl ?_ | refine Q.cf rfl ?_ | (refine GQ.a ?_; refine Q.al (fun b1 => ?_)))
  refine S.cr rfl (New_spec 2 _ (by decide) (by decide)) ?_
  rintro _ _ ⟨v, rfl, rfl⟩
  repeat (first | (refine GQ.y ?_; refine Q.y ?_) | refine Q.go ?_ | (refine GQ.g ?_; refine Q.gq ?_) | (refine GQ.s ?_; refine Q.st ?_) | (refine GQ.g ?_; refine Q.gd ?_) | refine Q.ct rfl ?_ | refine Q.cf rfl ?_ | (refine GQ.a ?_; refine Q.al (fun b1 => ?_)))
  refine swp_cutB (σ := VS × (Nat → Option Obj)) (fun u => [(1, .int .u64 t), (5, ptrV v), (7, ptrV b1)]) (fun u => vaultH v u.1 :: refH b1 u.1 :: roM u.2 :: []) (fun u => WFK u.1 30) ?_ ?_
  · refine swp_loop (σ := Nat × VS × (Nat → Option Obj)) (fun u => [(1, .int .u64 t), (5, ptrV v), (7, ptrV b1), (28, .slice a xs.length c), (29, .int .i64 xs.length), (30, .int .i64 u.1)]) (fun u => vaultH v u.2.1 :: refH b1 u.2.1 :: roM u.2.2 :: [])
      (fun u => u.1 ≤ xs.length ∧ u.1 ≤ 30 ∧ WFK u.2.1 u.1 ∧ DJ u.2.1 ∧ leM M u.2.2) (fun u => xs.length - u.1) (0, ⟨2, [], [], 0⟩, M) ⟨rfl, rfl, rfl, rfl, rfl, rfl, trivial⟩ ?_ ⟨by omega, by omega, ⟨WF0 2 (by decide) (by decide) 0, by simp [keysOK], by simp [keysOK]⟩, (fun i hi => by cases hi), leM.refl M⟩ ?_
    · dsimp only
      refine Ent.trans (Ent.perm (.swap _ _ _)) (Ent.cons ?_)
      refine Ent.trans (Ent.cons (Ent.nilM (Ent.refl _))) ?_
      exact ref_shut (p := b1) (st := ⟨2, [], [], 0⟩) (es := []) (is := []) (a := none) (a' := none) (c := 0) (c' := 0) ⟨by simp, by simp, by simp, by simp, by simp, by simp, ⟨rfl, .inl rfl⟩, ⟨rfl, .inl rfl⟩, by simp, by simp, by simp [keysOK], by simp [keysOK], by simp⟩
    rintro ⟨k, st, M1⟩ ⟨hk, hk30, hwf, hdj, hl1⟩
    dsimp only at hk hk30 hwf hdj hl1 ⊢
    by_cases hlt : k < xs.length
    · by_cases h30 : (30 : Int) ≤ k
      · obtain ⟨o, ho⟩ := mem_get hlt
        have hrs : RdS (vaultH v st :: refH b1 st :: roM M1 :: []) a xs.length 8 (xs.flatMap DV.cells) := (SlM.mono h hl1).rd
        obtain ⟨b, oo, hia, hr⟩ := RdS.elem (g := DV.cells) (fun _ => rfl) hrs ho rfl
        rw [hia]
        repeat (first | (refine GQ.y ?_; refine Q.y ?_) | refine Q.go ?_ | (refine GQ.g ?_; refine Q.gq ?_) | (refine GQ.s ?_; refine Q.st ?_) | (refine GQ.g ?_; refine Q.gd ?_) | refine Q.ct rfl ?_ | refine Q.cf rfl ?_ | (refine GQ.a ?_; refine Q.al (fun b1 => ?_)))
        exact ⟨(st, M1), ⟨rfl, rfl, rfl, trivial⟩, by repeat (first | exact Ent.refl _ | exact Ent.nil | refine Ent.pick ?_ | refine Ent.nilS ?_ | refine Ent.nilM ?_ | refine Ent.drop ?_), hwf.mono hk30⟩
      · obtain ⟨o, ho⟩ := mem_get hlt
        obtain ⟨x1, x2, x3, x4⟩ := hx o (List.mem_of_getElem? ho)
        have hrs : RdS (vaultH v st :: refH b1 st :: roM M1 :: []) a xs.length 8 (xs.flatMap DV.cells) := (SlM.mono h hl1).rd
        obtain ⟨b, oo, hia, hr⟩ := RdS.elem (g := DV.cells) (fun _ => rfl) hrs ho rfl
        rw [hia]
        repeat (first | (refine GQ.y ?_; refine Q.y ?_) | refine Q.go ?_ | (refine GQ.g ?_; refine Q.gq ?_) | (refine GQ.s ?_; refine Q.st ?_) | (refine GQ.g ?_; refine Q.gd ?_) | refine Q.ct rfl ?_ | refine Q.cf rfl ?_ | (refine GQ.a ?_; refine Q.al (fun b1 => ?_)))
        rename_i bp
        refine opsS_ent (L' := vaultH v st :: refH bp st :: roM M1 :: [pt b1 (cl o.cells 39)]) (by repeat (first | exact Ent.refl _ | exact Ent.nil | refine Ent.pick ?_ | refine Ent.nilS ?_ | refine Ent.nilM ?_ | refine Ent.drop ?_)) ?_
        refine S.cr rfl (Do_spec v bp st k o M1 _ hwf.wf (by omega) ⟨x1.1.mono hl1, fun u hu => (x1.2 u hu).mono hl1⟩ x2 x3 x4) ?_
        rintro _ _ ⟨rfl, M2, hl2, rfl⟩
        have hwf2 := hwf.do_ o
        have hdj2 := hdj.do_ o
        generalize doS st o = st2 at hwf2 hdj2 ⊢
        clear hwf hdj
        repeat (first | (refine GQ.y ?_; refine Q.y ?_) | refine Q.go ?_ | (refine GQ.g ?_; refine Q.gq ?_) | (refine GQ.s ?_; refine Q.st ?_) | (refine GQ.g ?_; refine Q.gd ?_) | refine Q.ct rfl ?_ | refine Q.cf rfl ?_ | (refine GQ.a ?_; refine Q.al (fun b1 => ?_)))
        refine S.mkm U64 Value.bool (fun bm => ?_)
        repeat (first | (refine GQ.y ?_; refine Q.y ?_) | refine Q.go ?_ | (refine GQ.g ?_; refine Q.gq ?_) | (refine GQ.s ?_; refine Q.st ?_) | (refine GQ.g ?_; refine Q.gd ?_) | refine Q.ct rfl ?_ | refine Q.cf rfl ?_ | (refine GQ.a ?_; refine Q.al (fun b1 => ?_)))
        refine opsS_ent (L' := vaultH v st2 :: roM M2 :: mpO U64 Value.bool bm [] :: [refH bp st2]) (by repeat (first | exact Ent.refl _ | exact Ent.nil | refine Ent.pick ?_ | refine Ent.nilS ?_ | refine Ent.nilM ?_ | refine Ent.drop ?_)) ?_
        refine S.cr rfl (Intents_spec v st2 (k + 1) M2 _ hwf2.wf (by omega)) ?_
        rintro _ _ ⟨a2, c2, es, M3, rfl, hl3, hsE, hoE, hnd, hin, rfl⟩
        have hel : es.length ≤ 100000 := by
          have h1 : (es.map IV.abs).length ≤ st2.its.length := by
            have : (es.map IV.abs).Nodup := by
              have h2 : ((es.map IV.abs).map (·.1)).Nodup := by rw [List.map_map]; exact hnd
              exact keys_nodup h2
            exact List.Nodup.length_le_of_subset this (fun u hu => by obtain ⟨w, hw, rfl⟩ := List.mem_map.1 hu; exact hin w hw)
          have := hwf2.wf.il
          rw [List.length_map] at h1; omega
        have hops : ∀ e ∈ es, e.ops.length ≤ 16 := fun e he => by have := (hwf2.wf.io _ (hin e he)).1; simpa using this
        have hidn : (es.flatMap idsI).Nodup := by
          refine ids_nodup hnd (fun e he => ?_) (fun e he f hf hne x hx => ?_)
          · have := (hwf2.wf.io _ (hin e he)).2.1
            rw [List.map_map] at this
            exact this
          · have := hdj2 _ (hin e he) _ (hin f hf) hne x
            rw [List.map_map, List.map_map] at this
            exact this hx
        repeat (first | (refine GQ.y ?_; refine Q.y ?_) | refine Q.go ?_ | (refine GQ.g ?_; refine Q.gq ?_) | (refine GQ.s ?_; refine Q.st ?_) | (refine GQ.g ?_; refine Q.gd ?_) | refine Q.ct rfl ?_ | refine Q.cf rfl ?_ | (refine GQ.a ?_; refine Q.al (fun b1 => ?_)))
        refine swp_loop (σ := Nat × List (Int × Bool)) (fun u => [(1, .int .u64 t), (5, ptrV v), (7, ptrV bp), (10, .map (some bm)), (28, .slice (some ⟨b, oo, none⟩) xs.length c), (29, .int .i64 xs.length), (30, .int .i64 k), (44, .slice a2 es.length c2), (45, .int .i64 es.length), (46, .int .i64 u.1)]) (fun u => mpO U64 Value.bool bm u.2 :: vaultH v st2 :: refH bp st2 :: roM M3 :: [])
            (fun u => u.1 ≤ es.length ∧ keysOK u.2 ∧ ∀ y, lkL u.2 y = if y ∈ (es.take u.1).flatMap idsI then some true else none) (fun u => es.length - u.1) (0, []) ⟨rfl, rfl, rfl, rfl, rfl, rfl, rfl, rfl, rfl, rfl, trivial⟩ (by repeat (first | exact Ent.refl _ | exact Ent.nil | refine Ent.pick ?_ | refine Ent.nilS ?_ | refine Ent.nilM ?_ | refine Ent.drop ?_)) ⟨by omega, by simp [keysOK], by intro y; simp [lkL]⟩ ?_
        rintro ⟨i, mp⟩ ⟨hi, hmk, hml⟩
        dsimp only at hi hmk hml ⊢
        by_cases hil : i < es.length
        · obtain ⟨e, he⟩ := mem_get hil
          have hme : e ∈ es := List.mem_of_getElem? he
          have hoe := hoE e hme
          have hopl := hops e hme
          have hrs2 : RdS (mpO U64 Value.bool bm mp :: vaultH v st2 :: refH bp st2 :: roM M3 :: []) a2 es.length 3 (es.flatMap IV.cells) := hsE.rd
          obtain ⟨b5, o5, hia5, hr5⟩ := RdS.elem (g := IV.cells) (fun _ => rfl) hrs2 he rfl
          clear hrs2
          have hpre : ((es.take i).flatMap idsI ++ idsI e).Nodup := by
            have : (es.take i).flatMap idsI ++ idsI e = (es.take (i + 1)).flatMap idsI := by rw [take_snoc he, List.flatMap_append]; simp
            rw [this]
            have h3 := hidn
            rw [← List.take_append_drop (i + 1) es, List.flatMap_append] at h3
            exact (List.nodup_append.1 h3).1
          rw [hia5]
          repeat (first | (refine GQ.y ?_; refine Q.y ?_) | refine Q.go ?_ | (refine GQ.g ?_; refine Q.gq ?_) | (refine GQ.s ?_; refine Q.st ?_) | (refine GQ.g ?_; refine Q.gd ?_) | refine Q.ct rfl ?_ | refine Q.cf rfl ?_ | (refine GQ.a ?_; refine Q.al (fun b1 => ?_)))
          refine swp_loop (σ := Nat × List (Int × Bool)) (fun u => [(1, .int .u64 t), (5, ptrV v), (7, ptrV bp), (10, .map (some bm)), (28, .slice (some ⟨b, oo, none⟩) xs.length c), (29, .int .i64 xs.length), (30, .int .i64 k), (44, .slice (some ⟨b5, o5, none⟩) es.length c2), (45, .int .i64 es.length), (46, .int .i64 i), (51, .slice e.a e.ops.length e.c), (52, .int .i64 e.ops.length), (53, .int .i64 u.1)]) (fun u => mpO U64 Value.bool bm u.2 :: vaultH v st2 :: refH bp st2 :: roM M3 :: [])
            (fun u => u.1 ≤ e.ops.length ∧ keysOK u.2 ∧ ∀ y, lkL u.2 y = if y ∈ (es.take i).flatMap idsI ++ (e.ops.take u.1).map (·.id) then some true else none) (fun u => e.ops.length - u.1) (0, mp) ⟨rfl, rfl, rfl, rfl, rfl, rfl, rfl, rfl, rfl, rfl, rfl, rfl, rfl, trivial⟩ (by repeat (first | exact Ent.refl _ | exact Ent.nil | refine Ent.pick ?_ | refine Ent.nilS ?_ | refine Ent.nilM ?_ | refine Ent.drop ?_)) ⟨by dsimp only; omega, hmk, by intro y; dsimp only; rw [hml]; simp⟩ ?_
          rintro ⟨j, mq⟩ ⟨hj, hqk, hql⟩
          dsimp only at hj hqk hql ⊢
          by_cases hjl : j < e.ops.length
          · obtain ⟨w, hw⟩ := mem_get hjl
            have hrs3 : RdO (mpO U64 Value.bool bm mq :: vaultH v st2 :: refH bp st2 :: roM M3 :: []) e.a e.ops := hoe.rd
            obtain ⟨b6, o6, hia6, hr6⟩ := RdS.elem (g := OV.cells) (fun _ => rfl) hrs3.1 hw rfl
            clear hrs3
            have hnew : w.id ∉ (es.take i).flatMap idsI ++ (e.ops.take j).map (·.id) := fun hm => by
              have h4 : idsI e = (e.ops.take j).map (·.id) ++ w.id :: (e.ops.drop (j + 1)).map (·.id) := by
                have : e.ops = e.ops.take j ++ w :: e.ops.drop (j + 1) := by
                  have h5 := (List.take_append_drop (j + 1) e.ops).symm
                  rw [take_snoc hw, List.append_assoc] at h5
                  exact h5
                show e.ops.map (·.id) = _
                conv => lhs; rw [this]
                rw [List.map_append, List.map_cons]
              rw [h4, ← List.append_assoc] at hpre
              exact (List.nodup_append.1 hpre).2.2 w.id hm w.id (by simp) rfl
            have hsn : ∀ y, lkL (putL mq w.id true) y = if y ∈ (es.take i).flatMap idsI ++ (e.ops.take (j + 1)).map (·.id) then some true else none := fun y => by
              rw [lkL_put hqk, take_snoc hw, List.map_append, hql]
              by_cases hy : y = w.id
              · subst hy; simp
              · simp [hy]
            rw [hia6]
            repeat (first | (refine GQ.y ?_; refine Q.y ?_) | refine Q.go ?_ | (refine GQ.g ?_; refine Q.gq ?_) | (refine GQ.s ?_; refine Q.st ?_) | (refine GQ.g ?_; refine Q.gd ?_) | refine Q.ct rfl ?_ | refine Q.cf rfl ?_ | (refine GQ.a ?_; refine Q.al (fun b1 => ?_)))
            refine S.y (Y.lk false rfl rfl (fun w => Try.zeroValue4 w)) ?_
            rw [hql, if_neg hnew]
            repeat (first | (refine GQ.y ?_; refine Q.y ?_) | refine Q.go ?_ | (refine GQ.g ?_; refine Q.gq ?_) | (refine GQ.s ?_; refine Q.st ?_) | (refine GQ.g ?_; refine Q.gd ?_) | refine Q.ct rfl ?_ | refine Q.cf rfl ?_ | (refine GQ.a ?_; refine Q.al (fun b1 => ?_)))
            refine S.mu rfl rfl rfl ?_
            repeat (first | (refine GQ.y ?_; refine Q.y ?_) | refine Q.go ?_ | (refine GQ.g ?_; refine Q.gq ?_) | (refine GQ.s ?_; refine Q.st ?_) | (refine GQ.g ?_; refine Q.gd ?_) | refine Q.ct rfl ?_ | refine Q.cf rfl ?_ | (refine GQ.a ?_; refine Q.al (fun b1 => ?_)))
            refine ⟨(j + 1, putL mq w.id true), ⟨rfl, rfl, rfl, rfl, rfl, rfl, rfl, rfl, rfl, rfl, rfl, rfl, rfl, trivial⟩, by repeat (first | exact Ent.refl _ | exact Ent.nil | refine Ent.pick ?_ | refine Ent.nilS ?_ | refine Ent.nilM ?_ | refine Ent.drop ?_), ⟨by dsimp only; omega, putL_ok hqk _ _, hsn⟩, by dsimp only; omega⟩
          · have hje : j = e.ops.length := by omega
            subst hje
            rw [List.take_length] at hql
            repeat (first | (refine GQ.y ?_; refine Q.y ?_) | refine Q.go ?_ | (refine GQ.g ?_; refine Q.gq ?_) | (refine GQ.s ?_; refine Q.st ?_) | (refine GQ.g ?_; refine Q.gd ?_) | refine Q.ct rfl ?_ | refine Q.cf rfl ?_ | (refine GQ.a ?_; refine Q.al (fun b1 => ?_)))
            refine ⟨(i + 1, mq), ⟨rfl, rfl, rfl, rfl, rfl, rfl, rfl, rfl, rfl, rfl, trivial⟩, by repeat (first | exact Ent.refl _ | exact Ent.nil | refine Ent.pick ?_ | refine Ent.nilS ?_ | refine Ent.nilM ?_ | refine Ent.drop ?_), ⟨by dsimp only; omega, hqk, fun y => ?_⟩, by dsimp only; omega⟩
            dsimp only
            rw [hql, take_snoc he, List.flatMap_append]
            simp
        · have hie : i = es.length := by omega
          subst hie
          repeat (first | (refine GQ.y ?_; refine Q.y ?_) | refine Q.go ?_ | (refine GQ.g ?_; refine Q.gq ?_) | (refine GQ.s ?_; refine Q.st ?_) | (refine GQ.g ?_; refine Q.gd ?_) | refine Q.ct rfl ?_ | refine Q.cf rfl ?_ | (refine GQ.a ?_; refine Q.al (fun b1 => ?_)))
          refine ⟨(k + 1, st2, M3), ⟨rfl, rfl, rfl, rfl, rfl, rfl, trivial⟩, by repeat (first | exact Ent.refl _ | exact Ent.nil | refine Ent.pick ?_ | refine Ent.nilS ?_ | refine Ent.nilM ?_ | refine Ent.drop ?_), ⟨by dsimp only; omega, by dsimp only; omega, hwf2, hdj2, hl1.trans (hl2.trans hl3)⟩, by dsimp only; omega⟩
    · have hke : k = xs.length := by omega
      subst hke
      repeat (first | (refine GQ.y ?_; refine Q.y ?_) | refine Q.go ?_ | (refine GQ.g ?_; refine Q.gq ?_) | (refine GQ.s ?_; refine Q.st ?_) | (refine GQ.g ?_; refine Q.gd ?_) | refine Q.ct rfl ?_ | refine Q.cf rfl ?_ | (refine GQ.a ?_; refine Q.al (fun b1 => ?_)))
      exact ⟨(st, M1), ⟨rfl, rfl, rfl, trivial⟩, Ent.refl _, hwf.mono hk30⟩
  rintro ⟨st, M1⟩ hwf
  dsimp only at hwf ⊢
  repeat (first | (refine GQ.y ?_; refine Q.y ?_) | refine Q.go ?_ | (refine GQ.g ?_; refine Q.gq ?_) | (refine GQ.s ?_; refine Q.st ?_) | (refine GQ.g ?_; refine Q.gd ?_) | refine Q.ct rfl ?_ | refine Q.cf rfl ?_ | (refine GQ.a ?_; refine Q.al (fun b1 => ?_)))
  refine swp_loop (σ := Nat) (fun j => [(1, .int .u64 t), (5, ptrV v), (7, ptrV b1), (67, .int .u64 j)]) (fun _ => vaultH v st :: refH b1 st :: roM M1 :: []) (fun j => j ≤ 12) (fun j => 12 - j) 0 ⟨rfl, rfl, rfl, rfl, trivial⟩ (Ent.refl _) (by omega) ?_
  intro j hj
  by_cases hlt : (j : Int) < 12
  · repeat (first | (refine GQ.y ?_; refine Q.y ?_) | refine Q.go ?_ | (refine GQ.g ?_; refine Q.gq ?_) | (refine GQ.s ?_; refine Q.st ?_) | (refine GQ.g ?_; refine Q.gd ?_) | refine Q.ct rfl ?_ | refine Q.cf rfl ?_ | (refine GQ.a ?_; refine Q.al (fun b1 => ?_)))
    refine opsS_ref b1 (fun M' a c es a' c' is hok => ?_)
    repeat (first | (refine GQ.y ?_; refine Q.y ?_) | refine Q.go ?_ | (refine GQ.g ?_; refine Q.gq ?_) | (refine GQ.s ?_; refine Q.st ?_) | (refine GQ.g ?_; refine Q.gd ?_) | refine Q.ct rfl ?_ | refine Q.cf rfl ?_ | (refine GQ.a ?_; refine Q.al (fun b1 => ?_)))
    have hil : is.length ≤ 100000 := by rw [hok.len.1]; have := hwf.wf.il; omega
    refine swp_cutB (σ := Unit) (fun _ => [(1, .int .u64 t), (5, ptrV v), (7, ptrV b1), (15, .int .u64 j), (67, .int .u64 j), (16, .bool (st.its.any fun i => holdsV i.2.2 j))]) (fun _ => vaultH v st :: refH b1 st :: roM M1 :: []) (fun _ => True) ?_ ?_
    · refine swp_loop (σ := Nat) (fun k => [(1, .int .u64 t), (5, ptrV v), (7, ptrV b1), (15, .int .u64 j), (67, .int .u64 j), (73, .slice a' is.length c'), (74, .int .i64 is.length), (16, .bool ((is.take k).any fun i => holdsV (i.ops.map OV.abs) j)), (75, .int .i64 k)]) (fun _ => rP b1 st.dim a es c a' is c' st.mark :: roM M' :: vaultH v st :: roM M1 :: [])
        (fun k => k ≤ is.length) (fun k => is.length - k) 0 ⟨rfl, rfl, rfl, rfl, rfl, rfl, rfl, rfl, rfl, trivial⟩ (by repeat (first | exact Ent.refl _ | exact Ent.nil | refine Ent.pick ?_ | refine Ent.nilS ?_ | refine Ent.nilM ?_ | refine Ent.drop ?_)) (by omega) ?_
      intro k hk
      by_cases hlt2 : k < is.length
      · obtain ⟨x, hx2⟩ := mem_get hlt2
        have hmx : x ∈ is := List.mem_of_getElem? hx2
        have hxl : x.ops.length ≤ 16 := by
          have := (hwf.wf.io x.abs (hok.its.mem_iff.1 (List.mem_map_of_mem hmx))).1
          simpa using this
        have hrs : RdS (rP b1 st.dim a es c a' is c' st.mark :: roM M' :: vaultH v st :: roM M1 :: []) a' is.length 3 (is.flatMap IV.cells) := hok.sI.rd
        obtain ⟨b, oo, hia, hr⟩ := RdS.elem (g := IV.cells) (fun _ => rfl) hrs hx2 rfl
        clear hrs
        have hst : (is.take (k + 1)).any (fun i => holdsV (i.ops.map OV.abs) j) = ((is.take k).any (fun i => holdsV (i.ops.map OV.abs) j) || holdsV (x.ops.map OV.abs) j) := by rw [take_snoc hx2, List.any_append]; simp
        rw [hia] at hr ⊢
        cases hb : (is.take k).any fun i => holdsV (i.ops.map OV.abs) j with
        | true =>
          repeat (first | (refine GQ.y ?_; refine Q.y ?_) | refine Q.go ?_ | (refine GQ.g ?_; refine Q.gq ?_) | (refine GQ.s ?_; refine Q.st ?_) | (refine GQ.g ?_; refine Q.gd ?_) | refine Q.ct rfl ?_ | refine Q.cf rfl ?_ | (refine GQ.a ?_; refine Q.al (fun b1 => ?_)))
          refine ⟨k + 1, ⟨rfl, rfl, rfl, rfl, rfl, rfl, rfl, by rw [hst, hb]; rfl, rfl, trivial⟩, by repeat (first | exact Ent.refl _ | exact Ent.nil | refine Ent.pick ?_ | refine Ent.nilS ?_ | refine Ent.nilM ?_ | refine Ent.drop ?_), by omega, by omega⟩
        | false =>
          repeat (first | (refine GQ.y ?_; refine Q.y ?_) | refine Q.go ?_ | (refine GQ.g ?_; refine Q.gq ?_) | (refine GQ.s ?_; refine Q.st ?_) | (refine GQ.g ?_; refine Q.gd ?_) | refine Q.ct rfl ?_ | refine Q.cf rfl ?_ | (refine GQ.a ?_; refine Q.al (fun b1 => ?_)))
          refine S.cr rfl (RHolds_spec x j _ (hok.oi x hmx).rd (by omega)) ?_
          rintro _ _ ⟨rfl, rfl⟩
          repeat (first | (refine GQ.y ?_; refine Q.y ?_) | refine Q.go ?_ | (refine GQ.g ?_; refine Q.gq ?_) | (refine GQ.s ?_; refine Q.st ?_) | (refine GQ.g ?_; refine Q.gd ?_) | refine Q.ct rfl ?_ | refine Q.cf rfl ?_ | (refine GQ.a ?_; refine Q.al (fun b1 => ?_)))
          refine ⟨k + 1, ⟨rfl, rfl, rfl, rfl, rfl, rfl, rfl, by rw [hst, hb]; rfl, rfl, trivial⟩, by repeat (first | exact Ent.refl _ | exact Ent.nil | refine Ent.pick ?_ | refine Ent.nilS ?_ | refine Ent.nilM ?_ | refine Ent.drop ?_), by omega, by omega⟩
      · have hke : k = is.length := by omega
        subst hke
        have hpa : (st.its.any fun i => holdsV i.2.2 j) = is.any fun i => holdsV (i.ops.map OV.abs) j := by
          have h1 : ((is.map IV.abs).any fun i => holdsV i.2.2 j) = st.its.any fun i => holdsV i.2.2 j := hok.its.any_eq
          rw [← h1, List.any_map]; rfl
        repeat (first | (refine GQ.y ?_; refine Q.y ?_) | refine Q.go ?_ | (refine GQ.g ?_; refine Q.gq ?_) | (refine GQ.s ?_; refine Q.st ?_) | (refine GQ.g ?_; refine Q.gd ?_) | refine Q.ct rfl ?_ | refine Q.cf rfl ?_ | (refine GQ.a ?_; refine Q.al (fun b1 => ?_)))
        refine ⟨(), ⟨rfl, rfl, rfl, rfl, rfl, by rw [hpa, List.take_length]; rfl, trivial⟩, ?_, trivial⟩
        refine Ent.trans (ref_shut hok) ?_
        repeat (first | exact Ent.refl _ | exact Ent.nil | refine Ent.pick ?_ | refine Ent.nilS ?_ | refine Ent.nilM ?_ | refine Ent.drop ?_)
    clear hok hil M' a c es a' c' is
    intro uu uv
    have hlo := lock_one hwf.wf t j (by omega)
    generalize (st.its.any fun i => holdsV i.2.2 j) = held at hlo ⊢
    repeat (first | (refine GQ.y ?_; refine Q.y ?_) | refine Q.go ?_ | (refine GQ.g ?_; refine Q.gq ?_) | (refine GQ.s ?_; refine Q.st ?_) | (refine GQ.g ?_; refine Q.gd ?_) | refine Q.ct rfl ?_ | refine Q.cf rfl ?_ | (refine GQ.a ?_; refine Q.al (fun b1 => ?_)))
    rename_i bp
    refine S.cv v rfl (Lock_spec v st ⟨t, 0, some ⟨b1, 0, none⟩, 1, [⟨j, none, 0, []⟩]⟩ _ hwf.wf.ops ⟨⟨rfl, .inr ⟨b1, 0, rfl, RdC.row⟩⟩, fun o ho => by obtain rfl := List.mem_singleton.1 ho; exact ⟨rfl, .inl rfl⟩⟩ (by simp) (fun o ho => by obtain rfl := List.mem_singleton.1 ho; simp) (by have := hwf.wf.d1; have := hwf.wf.d2; omega)) ?_
    rintro r L' ⟨hr, hL⟩
    replace hr := hr.trans (congrArg (Value.int .i64) hlo)
    replace hL : L' = vaultH v (lockS st t 0 [((j : Int), [])]) :: _ := hL
    subst hr hL
    repeat (first | (refine GQ.y ?_; refine Q.y ?_) | refine Q.go ?_ | (refine GQ.g ?_; refine Q.gq ?_) | (refine GQ.s ?_; refine Q.st ?_) | (refine GQ.g ?_; refine Q.gd ?_) | refine Q.ct rfl ?_ | refine Q.cf rfl ?_ | (refine GQ.a ?_; refine Q.al (fun b1 => ?_)))
    refine opsS_ref bp (fun M' a c es a' c' is hok => ?_)
    refine opsS_ent (L' := rP bp st.dim a es c a' is c' st.mark :: roM M' :: vaultH v (lockS st t 0 [((j : Int), [])]) :: [roM M1]) (by repeat (first | exact Ent.refl _ | exact Ent.nil | refine Ent.pick ?_ | refine Ent.nilS ?_ | refine Ent.nilM ?_ | refine Ent.drop ?_)) ?_
    refine S.cr rfl (Find_spec bp st.dim a es c a' is c' st.mark t M' _ hok.sI (by rw [hok.len.1]; have := hwf.wf.il; omega)) ?_
    rintro _ _ ⟨⟨k, i, rfl, hi, hit⟩ | ⟨rfl, hno⟩, rfl⟩
    · have hlk := hok.hasT hi
      rw [hit] at hlk
      rw [hlk] at hlo ⊢
      simp only [Option.isSome_some, if_true] at hlo ⊢
      have hS : lockS st t 0 [((j : Int), [])] = st := by unfold lockS; rw [if_neg (by rw [hlo]; decide)]
      rw [hS]
      refine opsS_ent (L' := vaultH v st :: refH bp st :: [roM M1]) (Ent.trans (ref_shut hok) (by repeat (first | exact Ent.refl _ | exact Ent.nil | refine Ent.pick ?_ | refine Ent.nilS ?_ | refine Ent.nilM ?_ | refine Ent.drop ?_))) ?_
      repeat (first | (refine GQ.y ?_; refine Q.y ?_) | refine Q.go ?_ | (refine GQ.g ?_; refine Q.gq ?_) | (refine GQ.s ?_; refine Q.st ?_) | (refine GQ.g ?_; refine Q.gd ?_) | refine Q.ct rfl ?_ | refine Q.cf rfl ?_ | (refine GQ.a ?_; refine Q.al (fun b1 => ?_)))
      refine S.y (Y.add rfl rfl) ?_
      rw [wrap_u64 (a := (j : Int) + 1) (by omega) (by omega)]
      repeat (first | (refine GQ.y ?_; refine Q.y ?_) | refine Q.go ?_ | (refine GQ.g ?_; refine Q.gq ?_) | (refine GQ.s ?_; refine Q.st ?_) | (refine GQ.g ?_; refine Q.gd ?_) | refine Q.ct rfl ?_ | refine Q.cf rfl ?_ | (refine GQ.a ?_; refine Q.al (fun b1 => ?_)))
      exact ⟨j + 1, ⟨rfl, rfl, rfl, rfl, trivial⟩, by repeat (first | exact Ent.refl _ | exact Ent.nil | refine Ent.pick ?_ | refine Ent.nilS ?_ | refine Ent.nilM ?_ | refine Ent.drop ?_), by omega, by omega⟩
    · have hlk := hok.noT hno
      rw [hlk] at hlo ⊢
      simp only [Option.isSome_none, Bool.false_eq_true, if_false] at hlo ⊢
      refine opsS_ent (L' := vaultH v (lockS st t 0 [((j : Int), [])]) :: refH bp st :: [roM M1]) (Ent.trans (ref_shut hok) (by repeat (first | exact Ent.refl _ | exact Ent.nil | refine Ent.pick ?_ | refine Ent.nilS ?_ | refine Ent.nilM ?_ | refine Ent.drop ?_))) ?_
      cases held with
      | true =>
        simp only [if_true] at hlo ⊢
        have hS : lockS st t 0 [((j : Int), [])] = st := by unfold lockS; rw [if_neg (by rw [hlo]; decide)]
        rw [hS]
        repeat (first | (refine GQ.y ?_; refine Q.y ?_) | refine Q.go ?_ | (refine GQ.g ?_; refine Q.gq ?_) | (refine GQ.s ?_; refine Q.st ?_) | (refine GQ.g ?_; refine Q.gd ?_) | refine Q.ct rfl ?_ | refine Q.cf rfl ?_ | (refine GQ.a ?_; refine Q.al (fun b1 => ?_)))
        refine S.y (Y.add rfl rfl) ?_
        rw [wrap_u64 (a := (j : Int) + 1) (by omega) (by omega)]
        repeat (first | (refine GQ.y ?_; refine Q.y ?_) | refine Q.go ?_ | (refine GQ.g ?_; refine Q.gq ?_) | (refine GQ.s ?_; refine Q.st ?_) | (refine GQ.g ?_; refine Q.gd ?_) | refine Q.ct rfl ?_ | refine Q.cf rfl ?_ | (refine GQ.a ?_; refine Q.al (fun b1 => ?_)))
        exact ⟨j + 1, ⟨rfl, rfl, rfl, rfl, trivial⟩, by repeat (first | exact Ent.refl _ | exact Ent.nil | refine Ent.pick ?_ | refine Ent.nilS ?_ | refine Ent.nilM ?_ | refine Ent.drop ?_), by omega, by omega⟩
      | false =>
        simp only [Bool.false_eq_true, if_false] at hlo ⊢
        have hS : lockS st t 0 [((j : Int), [])] = { st with its := st.its ++ [(t, 0, [((j : Int), [])])] } := by unfold lockS; rw [if_pos hlo]
        rw [hS]
        repeat (first | (refine GQ.y ?_; refine Q.y ?_) | refine Q.go ?_ | (refine GQ.g ?_; refine Q.gq ?_) | (refine GQ.s ?_; refine Q.st ?_) | (refine GQ.g ?_; refine Q.gd ?_) | refine Q.ct rfl ?_ | refine Q.cf rfl ?_ | (refine GQ.a ?_; refine Q.al (fun b1 => ?_)))
        refine S.cv v rfl (Free_spec v _ t _) ?_
        rintro _ _ ⟨rfl, rfl⟩
        dsimp only
        rw [show lkL (st.its ++ [(t, (0 : Int), [((j : Int), ([] : List Int))])]) t = some (0, [((j : Int), [])]) from (lkL_iff (keys_snoc hwf.k2 _ hlk)).2 (by simp), del_last hlk]
        repeat (first | (refine GQ.y ?_; refine Q.y ?_) | refine Q.go ?_ | (refine GQ.g ?_; refine Q.gq ?_) | (refine GQ.s ?_; refine Q.st ?_) | (refine GQ.g ?_; refine Q.gd ?_) | refine Q.ct rfl ?_ | refine Q.cf rfl ?_ | (refine GQ.a ?_; refine Q.al (fun b1 => ?_)))
        refine S.y (Y.add rfl rfl) ?_
        rw [wrap_u64 (a := (j : Int) + 1) (by omega) (by omega)]
        repeat (first | (refine GQ.y ?_; refine Q.y ?_) | refine Q.go ?_ | (refine GQ.g ?_; refine Q.gq ?_) | (refine GQ.s ?_; refine Q.st ?_) | (refine GQ.g ?_; refine Q.gd ?_) | refine Q.ct rfl ?_ | refine Q.cf rfl ?_ | (refine GQ.a ?_; refine Q.al (fun b1 => ?_)))
        exact ⟨j + 1, ⟨rfl, rfl, rfl, rfl, trivial⟩, by repeat (first | exact Ent.refl _ | exact Ent.nil | refine Ent.pick ?_ | refine Ent.nilS ?_ | refine Ent.nilM ?_ | refine Ent.drop ?_), by omega, by omega⟩
  · have hke : j = 12 := by omega
    subst hke
    repeat (first | (refine GQ.y ?_; refine Q.y ?_) | refine Q.go ?_ | (refine GQ.g ?_; refine Q.gq ?_) | (refine GQ.s ?_; refine Q.st ?_) | (refine GQ.g ?_; refine Q.gd ?_) | refine Q.ct rfl ?_ | refine Q.cf rfl ?_ | (refine GQ.a ?_; refine Q.al (fun b1 => ?_)))
    exact N.r1 (RV.tmp rfl RV.nil) (Ent.refl _) rfl
end Go.Proofs.Ytieejgbjgcbbjaa
