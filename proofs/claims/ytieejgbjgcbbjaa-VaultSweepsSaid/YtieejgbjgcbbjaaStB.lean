/- VaultStays: what is answered stays so, as a law of states. No condition. -/
import Derived.Test.YtieejgbjgcbbjaaVtX
set_option linter.unusedVariables false
set_option linter.unusedSimpArgs false
namespace Go.Proofs.Ytieejgbjgcbbjaa
open Go Go.SX
theorem aft_snoc {vs : VL} {t s : Int} {x : List Int} (h : s < t) : aftN (vs ++ [(t, x)]) s = aftN vs s := by
  unfold aftN
  rw [List.filter_append, List.length_append]
  have : ¬ t ≤ s := by omega
  simp [this]
theorem at_snoc {vs : VL} {t s : Int} {x : List Int} (h : s < t) : atV (vs ++ [(t, x)]) s = atV vs s := by
  unfold atV
  rw [aft_snoc h]
  by_cases h0 : aftN vs s = 0
  · rw [if_pos h0, if_pos h0]
  · rw [if_neg h0, if_neg h0, List.getElem?_append_left (by have := aft_le vs s; omega)]
theorem aft_mono : ∀ (vs : VL) {m s : Int}, m ≤ s → aftN vs m ≤ aftN vs s
  | [], _, _, _ => Nat.le_refl _
  | v :: vs, m, s, h => by
    have := aft_mono vs h
    unfold aftN at *
    rw [List.filter_cons, List.filter_cons]
    by_cases h1 : v.1 ≤ m
    · have h2 : v.1 ≤ s := by omega
      simp [h1, h2]; omega
    · by_cases h2 : v.1 ≤ s
      · simp [h1, h2]; omega
      · simp [h1, h2]; omega
theorem aft_drop : ∀ {vs : VL} {s : Int} {k : Nat}, sortedV vs → k ≤ aftN vs s → aftN (vs.drop k) s = aftN vs s - k
  | [], _, _, _, hk => by simp [aftN] at *
  | v :: vs, s, 0, _, _ => rfl
  | v :: vs, s, k + 1, hs, hk => by
    have hs2 : sortedV vs := by
      unfold sortedV at hs ⊢
      rw [List.map_cons, List.pairwise_cons] at hs
      exact hs.2
    have hv : v.1 ≤ s := aft_lo hs 0 v (by omega) rfl
    have h1 : aftN (v :: vs) s = aftN vs s + 1 := by unfold aftN; simp [hv]
    rw [h1] at hk ⊢
    rw [List.drop_succ_cons, aft_drop hs2 (by omega)]
    omega
theorem at_cut {vs : VL} {m s : Int} (hs : sortedV vs) (h : m ≤ s) : atV (vs.drop (cutN vs m)) s = atV vs s := by
  have hm := aft_mono vs h
  have hc : cutN vs m ≤ aftN vs m := by
    unfold cutN
    split
    · omega
    · split <;> omega
  unfold atV
  rw [aft_drop hs (by omega)]
  by_cases h0 : aftN vs s = 0
  · rw [if_pos h0, if_pos (by omega)]
  rw [if_neg h0]
  by_cases h1 : aftN vs s - cutN vs m = 0
  · rw [if_pos h1]
    have h2 : aftN vs s = aftN vs m := by omega
    have h3 : cutN vs m = aftN vs m := by omega
    unfold cutN at h3
    rw [if_neg (by omega)] at h3
    by_cases h4 : 0 < (((vs[aftN vs m - 1]?).map (·.2)).getD []).length
    · rw [if_pos h4] at h3; omega
    · rw [h2]
      exact (List.length_eq_zero_iff.1 (by omega)).symm
  · rw [if_neg h1, List.getElem?_drop, show cutN vs m + (aftN vs s - cutN vs m - 1) = aftN vs s - 1 by omega]
theorem lkL_delS {κ α : Type} [DecidableEq κ] (m : List (κ × α)) (x : κ) : lkL (delL m x) x = none := lkL_none fun u hu => by
  have := (List.mem_filter.1 hu).2
  simpa using this
theorem ch_sw1 {m : Int} {u : List (Int × VL) × GL} (h : keysOK u.1) (x id : Int) : chV (sw1 m u x).1 id = if id = x then (chV u.1 id).drop (cutN (chV u.1 id) m) else chV u.1 id := by
  by_cases he : id = x
  · subst he
    rw [if_pos rfl]
    unfold sw1
    dsimp only
    by_cases h0 : ((chV u.1 id).drop (cutN (chV u.1 id) m)).length = 0
    · rw [if_pos h0, List.length_eq_zero_iff.1 h0]
      show (lkL (delL u.1 id) id).getD [] = []
      rw [lkL_delS]; rfl
    · rw [if_neg h0]
      generalize (chV u.1 id).drop (cutN (chV u.1 id) m) = w
      unfold chV
      rw [lkL_put h, if_pos rfl]; rfl
  · rw [if_neg he]
    unfold chV
    rw [sw1_lk h he]
theorem ch_swF {m : Int} {id : Int} : ∀ {ks : List Int} {u : List (Int × VL) × GL}, keysOK u.1 → ks.Nodup → chV (ks.foldl (sw1 m) u).1 id = if id ∈ ks then (chV u.1 id).drop (cutN (chV u.1 id) m) else chV u.1 id
  | [], _, _, _ => by simp
  | k :: ks, u, h, hn => by
    simp only [List.nodup_cons] at hn
    show chV (ks.foldl (sw1 m) (sw1 m u k)).1 id = _
    rw [ch_swF (ks := ks) (sw1_ok h k) hn.2, ch_sw1 h]
    by_cases he : id = k
    · subst he
      simp [hn.1]
    · simp [he]
theorem ch_sweep {m : Int} {ch : List (Int × VL)} (h : keysOK ch) (id : Int) : chV (swF m (swIds ch) ch).1 id = (chV ch id).drop (cutN (chV ch id) m) := by
  unfold swF
  rw [ch_swF (u := (ch, [])) h (swIds_nodup h)]
  by_cases hi : id ∈ swIds ch
  · rw [if_pos hi]
  · rw [if_neg hi]
    have : chV ch id = [] := by
      unfold chV
      cases hz : lkL ch id with
      | none => rfl
      | some vs =>
        exfalso
        apply hi
        unfold swIds
        exact (sortL_perm _).mem_iff.2 (List.mem_map_of_mem (f := (·.1)) (lk_memL hz))
    show chV ch id = _
    rw [this]
    simp
theorem ch_apply {s : Int} {id : Int} : ∀ {ops : VL} {ch : List (Int × VL)}, keysOK ch → (ops.map (·.1)).Nodup → chV (applyC s ch ops) id = chV ch id ∨ (holdsV ops id = true ∧ ∃ x, chV (applyC s ch ops) id = chV ch id ++ [(s, x)])
  | [], _, _, _ => .inl rfl
  | o :: ops, ch, h, hn => by
    simp only [List.map_cons, List.nodup_cons] at hn
    by_cases he : id = o.1
    · refine .inr ⟨by simp [holdsV, he], o.2, ?_⟩
      show chV (applyC s (putC s ch o) ops) id = _
      rw [he]
      conv => lhs; unfold chV
      rw [lk_apply (putL_ok' h s o) hn.1]
      unfold putC
      rw [lkL_put h, if_pos rfl]; rfl
    · have h2 : chV (putC s ch o) id = chV ch id := by
        unfold chV putC
        rw [lkL_put h, if_neg he]
      rcases ch_apply (s := s) (id := id) (ops := ops) (putL_ok' h s o) hn.2 with h1 | ⟨h1, x, h3⟩
      · exact .inl (h1.trans h2)
      · exact .inr ⟨by simp [holdsV] at h1 ⊢; exact .inr h1, x, h3.trans (by rw [h2])⟩
/-- What was answered stays. -/
structure Stay (st : VS) (s id : Int) (w : List Int) : Prop where
  b : ∀ i ∈ st.its, i.2.1 < s → holdsV i.2.2 id = false
  a : st.mark ≤ s → atV (chV st.ch id) s = w
theorem blocked_one (st : VS) (s id : Int) : blockedV st s [id] = false ↔ ∀ i ∈ st.its, i.2.1 < s → holdsV i.2.2 id = false := by
  unfold blockedV
  rw [List.any_eq_false]
  constructor
  · intro h i hi hs
    have := h i hi
    simpa [hs] using this
  · intro h i hi
    by_cases hs : i.2.1 < s
    · simp [h i hi hs]
    · simp [hs]
theorem Stay.of_open {st : VS} {s id : Int} (h : openE st s [id] = 0) : Stay st s id (getV st id s) := by
  have hE := h
  unfold openE at h
  by_cases hb : blockedV st s [id] = true
  · rw [if_pos hb] at h; cases h
  rw [if_neg hb] at h
  refine ⟨(blocked_one st s id).1 (by simpa using hb), fun _ => ?_⟩
  unfold getV
  rw [if_neg (by rw [hE]; simp)]
theorem Stay.get {st : VS} {s id : Int} {w : List Int} (h : Stay st s id w) : (openE st s [id] = 0 ∧ getV st id s = w) ∨ openE st s [id] = 12 := by
  have hb : ¬ blockedV st s [id] = true := by rw [(blocked_one st s id).2 h.b]; exact Bool.false_ne_true
  by_cases hm : s < st.mark
  · exact .inr (by unfold openE; rw [if_neg hb, if_pos hm])
  · have hE : openE st s [id] = 0 := by unfold openE; rw [if_neg hb, if_neg hm]
    exact .inl ⟨hE, by unfold getV; rw [if_neg (by rw [hE]; simp)]; exact h.a (by omega)⟩
theorem Stay.do_ {st : VS} {n : Nat} {s id : Int} {w : List Int} (hw : WFK st n) (h : Stay st s id w) (o : DV) (ho : s ≤ o.after) : Stay (doS st o) s id w := by
  unfold doS
  split
  · exact ⟨fun i hi => h.b i (List.mem_filter.1 hi).1, h.a⟩
  split
  · unfold applyS
    split
    · exact h
    · rename_i i hi
      split
      · rename_i hE
        refine ⟨fun j hj => h.b j (List.mem_filter.1 hj).1, fun hm => ?_⟩
        have hmi := lk_memL hi
        unfold applyE at hE
        rw [hi] at hE
        dsimp only at hE
        have hlt : i.1 < o.stamp := by
          by_cases hc : o.stamp = 0 ∨ 1099511627776 < o.stamp ∨ o.stamp ≤ i.1
          · rw [if_pos hc] at hE; cases hE
          · omega
        dsimp only at hm ⊢
        rcases ch_apply (s := o.stamp) (id := id) hw.k1 (hw.wf.io _ hmi).2.1 with h1 | ⟨h1, x, h2⟩
        · rw [h1]; exact h.a hm
        · rw [h2, at_snoc, h.a hm]
          by_cases hs : i.1 < s
          · have := h.b _ hmi hs
            dsimp only at this
            rw [this] at h1; cases h1
          · omega
      · exact h
  split
  · unfold sweepS
    split
    · exact h
    · rename_i hm
      refine ⟨h.b, fun hm2 => ?_⟩
      dsimp only at hm2 ⊢
      rw [ch_sweep hw.k1, at_cut]
      · exact h.a (by omega)
      · unfold chV
        cases hz : lkL st.ch id with
        | none => exact List.Pairwise.nil
        | some vs => exact (hw.wf.co _ (lk_memL hz)).1
      · exact hm2
  · unfold lockS
    split
    · refine ⟨fun i hi hs => ?_, h.a⟩
      rcases List.mem_append.1 hi with hi | hi
      · exact h.b i hi hs
      · obtain rfl := List.mem_singleton.1 hi
        dsimp only at hs
        omega
    · exact h
end Go.Proofs.Ytieejgbjgcbbjaa
/- VaultStays: the law, walked. No condition. -/
set_option linter.unusedVariables false
set_option linter.unusedSimpArgs false
namespace Go.Proofs.Ytieejgbjgcbbjaa
open Go Go.SX
attribute [local irreducible] swp opsS thenS blockS retS CallsS St Ent YieldS anyS drawS
abbrev cW (o : OV) : List Value := [.slice o.a o.vec.length o.c]
abbrev cI2 (o : OV) : List Value := [.int .u64 o.id]
theorem max_u {a b : Int} : max a b = if a ≤ b then b else a := by omega
theorem getV_len {st : VS} {n : Nat} (hw : WF st n) (id s : Int) : (getV st id s).length ≤ 8 := by
  unfold getV
  split
  · simp
  unfold atV
  split
  · simp
  cases hz : (chV st.ch id)[aftN (chV st.ch id) s - 1]? with
  | none => simp
  | some v =>
    have hm := List.mem_of_getElem? hz
    unfold chV at hm
    cases hy : lkL st.ch id with
    | none => rw [hy] at hm; cases hm
    | some vs =>
      rw [hy] at hm
      exact (hw.co _ (lk_memL hy)).2.2 v hm
set_option maxHeartbeats 4000000 in
theorem VaultStays_spec (a : Option Addr) (c : Nat) (xs : List DV) (a' : Option Addr) (c' : Nat) (ys : List DV) (s : Int) (ai : Option Addr) (ci : Nat) (ids : List Int) (M : Nat → Option Obj)
    (h : SlM M a xs.length 8 (xs.flatMap DV.cells)) (hx : ∀ o ∈ xs, (SlM M o.a o.ops.length 2 (o.ops.flatMap OV.cells) ∧ okR M o.ops) ∧ (∀ u ∈ o.ops, u.vec.length ≤ u.c) ∧ o.ops.length ≤ 9223372036854775807 ∧ 0 ≤ o.stamp) (hn : xs.length ≤ 9223372036854775807)
    (h' : SlM M a' ys.length 8 (ys.flatMap DV.cells)) (hy : ∀ o ∈ ys, (SlM M o.a o.ops.length 2 (o.ops.flatMap OV.cells) ∧ okR M o.ops) ∧ (∀ u ∈ o.ops, u.vec.length ≤ u.c) ∧ o.ops.length ≤ 9223372036854775807 ∧ 0 ≤ o.stamp) (hn' : ys.length ≤ 9223372036854775807)
    (hi : SlM M ai ids.length 1 (ids.map U64)) (hin : ids.length ≤ 9223372036854775807) :
    CallsS Try.prog 5 [.slice a xs.length c, .slice a' ys.length c', .int .u64 s, .slice ai ids.length ci] [roM M] (fun v _ => v = .bool true) := by
  refine CallsS.of_body Try.func5 rfl rfl rfl ?_
  repeat (first | (refine GQ.y ?_; refine Q.y ?_) | refine Q.go ?_ | (refine GQ.g ?_; refine Q.gq ?_) | (refine GQ.s ?_; refine Q.st ?_) | (refine GQ.g ?_; refine Q.gd ?_) | refine Q.ct rfl ?_ | refine Q.cf rfl ?_ | (refine GQ.a ?_; refine Q.al (fun b1 => ?_)))
  refine S.cr rfl (awake_spec _) ?_
  rintro _ _ ⟨rfl, rfl⟩
  repeat (first | (refine GQ.y ?_; refine Q.y ?_) | refine Q.go ?_ | (refine GQ.g ?_; refine Q.gq ?_) | (refine GQ.s ?_; refine Q.st ?_) | (refine GQ.g ?_; refine Q.gd ?_) | refine Q.ct rfl ?_ | refine Q.cf rfl ?_ | (refine GQ.a ?_; refine Q.al (fun b1 => ?_)))
  refine S.cr rfl (New_spec 2 _ (by decide) (by decide)) ?_
  rintro _ _ ⟨v, rfl, rfl⟩
  repeat (first | (refine GQ.y ?_; refine Q.y ?_) | refine Q.go ?_ | (refine GQ.g ?_; refine Q.gq ?_) | (refine GQ.s ?_; refine Q.st ?_) | (refine GQ.g ?_; refine Q.gd ?_) | refine Q.ct rfl ?_ | refine Q.cf rfl ?_ | (refine GQ.a ?_; refine Q.al (fun b1 => ?_)))
  refine swp_cutB (σ := VS × (Nat → Option Obj)) (fun u => [(1, .slice a' ys.length c'), (2, .int .u64 s), (3, .slice ai ids.length ci), (9, ptrV v), (11, ptrV b1)]) (fun u => vaultH v u.1 :: refH b1 u.1 :: roM u.2 :: []) (fun u => WFK u.1 25 ∧ leM M u.2) ?_ ?_
  · refine swp_loop (σ := Nat × VS × (Nat → Option Obj)) (fun u => [(1, .slice a' ys.length c'), (2, .int .u64 s), (3, .slice ai ids.length ci), (9, ptrV v), (11, ptrV b1), (36, .slice a xs.length c), (37, .int .i64 xs.length), (38, .int .i64 u.1)]) (fun u => vaultH v u.2.1 :: refH b1 u.2.1 :: roM u.2.2 :: [])
      (fun u => u.1 ≤ xs.length ∧ WFK u.2.1 (min u.1 25) ∧ leM M u.2.2) (fun u => xs.length - u.1) (0, ⟨2, [], [], 0⟩, M) ⟨rfl, rfl, rfl, rfl, rfl, rfl, rfl, rfl, trivial⟩ ?_ ⟨by omega, ⟨WF0 2 (by decide) (by decide) _, by simp [keysOK], by simp [keysOK]⟩, leM.refl M⟩ ?_
    · dsimp only
      refine Ent.trans (Ent.perm (.swap _ _ _)) (Ent.cons ?_)
      refine Ent.trans (Ent.cons (Ent.nilM (Ent.refl _))) ?_
      exact ref_shut (p := b1) (st := ⟨2, [], [], 0⟩) (es := []) (is := []) (a := none) (a' := none) (c := 0) (c' := 0) ⟨by simp, by simp, by simp, by simp, by simp, by simp, ⟨rfl, .inl rfl⟩, ⟨rfl, .inl rfl⟩, by simp, by simp, by simp [keysOK], by simp [keysOK], by simp⟩
    rintro ⟨k, st, M1⟩ ⟨hk, hwf, hl1⟩
    dsimp only at hk hwf hl1 ⊢
    by_cases hlt : k < xs.length
    · obtain ⟨o, ho⟩ := mem_get hlt
      obtain ⟨x1, x2, x3, x4⟩ := hx o (List.mem_of_getElem? ho)
      have hrs : RdS (vaultH v st :: refH b1 st :: roM M1 :: []) a xs.length 8 (xs.flatMap DV.cells) := (SlM.mono h hl1).rd
      obtain ⟨b, oo, hia, hr⟩ := RdS.elem (g := DV.cells) (fun _ => rfl) hrs ho rfl
      rw [hia]
      by_cases h25 : (k : Int) < 25
      · repeat (first | (refine GQ.y ?_; refine Q.y ?_) | refine Q.go ?_ | (refine GQ.g ?_; refine Q.gq ?_) | (refine GQ.s ?_; refine Q.st ?_) | (refine GQ.g ?_; refine Q.gd ?_) | refine Q.ct rfl ?_ | refine Q.cf rfl ?_ | (refine GQ.a ?_; refine Q.al (fun b1 => ?_)))
        rename_i bp
        refine opsS_ent (L' := vaultH v st :: refH bp st :: roM M1 :: [pt b1 (cl o.cells 39)]) (by repeat (first | exact Ent.refl _ | exact Ent.nil | refine Ent.pick ?_ | refine Ent.nilS ?_ | refine Ent.nilM ?_ | refine Ent.drop ?_)) ?_
        refine S.cr rfl (Do_spec v bp st _ o M1 _ hwf.wf (by omega) ⟨x1.1.mono hl1, fun u hu => (x1.2 u hu).mono hl1⟩ x2 x3 x4) ?_
        rintro _ _ ⟨rfl, M2, hl2, rfl⟩
        have hwf2 := hwf.do_ o
        generalize doS st o = st2 at hwf2 ⊢
        repeat (first | (refine GQ.y ?_; refine Q.y ?_) | refine Q.go ?_ | (refine GQ.g ?_; refine Q.gq ?_) | (refine GQ.s ?_; refine Q.st ?_) | (refine GQ.g ?_; refine Q.gd ?_) | refine Q.ct rfl ?_ | refine Q.cf rfl ?_ | (refine GQ.a ?_; refine Q.al (fun b1 => ?_)))
        refine ⟨(k + 1, st2, M2), ⟨rfl, rfl, rfl, rfl, rfl, rfl, rfl, rfl, trivial⟩, by repeat (first | exact Ent.refl _ | exact Ent.nil | refine Ent.pick ?_ | refine Ent.nilS ?_ | refine Ent.nilM ?_ | refine Ent.drop ?_), ⟨by dsimp only; omega, hwf2.mono (by dsimp only; omega), hl1.trans hl2⟩, by dsimp only; omega⟩
      · repeat (first | (refine GQ.y ?_; refine Q.y ?_) | refine Q.go ?_ | (refine GQ.g ?_; refine Q.gq ?_) | (refine GQ.s ?_; refine Q.st ?_) | (refine GQ.g ?_; refine Q.gd ?_) | refine Q.ct rfl ?_ | refine Q.cf rfl ?_ | (refine GQ.a ?_; refine Q.al (fun b1 => ?_)))
        refine ⟨(k + 1, st, M1), ⟨rfl, rfl, rfl, rfl, rfl, rfl, rfl, rfl, trivial⟩, by repeat (first | exact Ent.refl _ | exact Ent.nil | refine Ent.pick ?_ | refine Ent.nilS ?_ | refine Ent.nilM ?_ | refine Ent.drop ?_), ⟨by dsimp only; omega, hwf.mono (by dsimp only; omega), hl1⟩, by dsimp only; omega⟩
    · have hke : k = xs.length := by omega
      subst hke
      repeat (first | (refine GQ.y ?_; refine Q.y ?_) | refine Q.go ?_ | (refine GQ.g ?_; refine Q.gq ?_) | (refine GQ.s ?_; refine Q.st ?_) | (refine GQ.g ?_; refine Q.gd ?_) | refine Q.ct rfl ?_ | refine Q.cf rfl ?_ | (refine GQ.a ?_; refine Q.al (fun b1 => ?_)))
      exact ⟨(st, M1), ⟨rfl, rfl, rfl, rfl, rfl, trivial⟩, Ent.refl _, hwf.mono (by omega), hl1⟩
  rintro ⟨st, M1⟩ ⟨hwf, hl1⟩
  dsimp only at hwf hl1 ⊢
  clear h hx hn a c xs
  repeat (first | (refine GQ.y ?_; refine Q.y ?_) | refine Q.go ?_ | (refine GQ.g ?_; refine Q.gq ?_) | (refine GQ.s ?_; refine Q.st ?_) | (refine GQ.g ?_; refine Q.gd ?_) | refine Q.ct rfl ?_ | refine Q.cf rfl ?_ | (refine GQ.a ?_; refine Q.al (fun b1 => ?_)))
  refine swp_cutB (σ := List OV × Option Addr × Nat × Option Addr × Nat × (Nat → Option Obj)) (fun u => [(1, .slice a' ys.length c'), (2, .int .u64 s), (9, ptrV v), (11, ptrV b1), (14, .slice u.2.1 u.1.length u.2.2.1), (15, .slice u.2.2.2.1 u.1.length u.2.2.2.2.1)])
    (fun u => slO 45 1 u.2.1 u.1.length u.2.2.1 (u.1.flatMap cW) :: slO 23 1 u.2.2.2.1 u.1.length u.2.2.2.2.1 (u.1.flatMap cI2) :: vaultH v st :: refH b1 st :: roM u.2.2.2.2.2 :: []) (fun u => u.1.length ≤ 10 ∧ (∀ o ∈ u.1, Stay st s o.id o.vec ∧ o.vec.length ≤ 1000) ∧ okR u.2.2.2.2.2 u.1 ∧ leM M1 u.2.2.2.2.2) ?_ ?_
  · refine swp_loop (σ := Nat × List OV × Option Addr × Nat × Option Addr × Nat × (Nat → Option Obj)) (fun u => [(1, .slice a' ys.length c'), (2, .int .u64 s), (9, ptrV v), (11, ptrV b1), (53, .slice ai ids.length ci), (54, .int .i64 ids.length), (14, .slice u.2.2.1 u.2.1.length u.2.2.2.1), (15, .slice u.2.2.2.2.1 u.2.1.length u.2.2.2.2.2.1), (55, .int .i64 u.1)])
      (fun u => slO 45 1 u.2.2.1 u.2.1.length u.2.2.2.1 (u.2.1.flatMap cW) :: slO 23 1 u.2.2.2.2.1 u.2.1.length u.2.2.2.2.2.1 (u.2.1.flatMap cI2) :: vaultH v st :: refH b1 st :: roM u.2.2.2.2.2.2 :: [])
      (fun u => u.1 ≤ ids.length ∧ u.2.1.length ≤ u.1 ∧ u.2.1.length ≤ 10 ∧ (∀ o ∈ u.2.1, Stay st s o.id o.vec ∧ o.vec.length ≤ 1000) ∧ okR u.2.2.2.2.2.2 u.2.1 ∧ leM M1 u.2.2.2.2.2.2) (fun u => ids.length - u.1) (0, [], none, 0, none, 0, M1) ⟨rfl, rfl, rfl, rfl, rfl, rfl, rfl, rfl, rfl, trivial⟩ ?_ ⟨by omega, by simp, by simp, by simp, fun o ho => by simp at ho, leM.refl M1⟩ ?_
    · refine Ent.trans (Ent.trans ?_ slO_nil) slO_nil
      repeat (first | exact Ent.refl _ | exact Ent.nil | refine Ent.pick ?_ | refine Ent.nilS ?_ | refine Ent.nilM ?_ | refine Ent.drop ?_)
    rintro ⟨k, us, a3, c3, a4, c4, M2⟩ ⟨hk, huk, hu10, hst, hok, hl2⟩
    dsimp only at hk huk hu10 hst hok hl2 ⊢
    by_cases hlt : k < ids.length
    · obtain ⟨x, hx⟩ := mem_get hlt
      have hrs : RdS (slO 45 1 a3 us.length c3 (us.flatMap cW) :: slO 23 1 a4 us.length c4 (us.flatMap cI2) :: vaultH v st :: refH b1 st :: roM M2 :: []) ai ids.length 1 (ids.flatMap cU) := by rw [flat_U]; exact (SlM.mono hi (hl1.trans hl2)).rd
      obtain ⟨b, oo, hia, hr⟩ := RdS.elem (g := cU) (fun _ => rfl) hrs hx rfl
      rw [hia]
      repeat (first | (refine GQ.y ?_; refine Q.y ?_) | refine Q.go ?_ | (refine GQ.g ?_; refine Q.gq ?_) | (refine GQ.s ?_; refine Q.st ?_) | (refine GQ.g ?_; refine Q.gd ?_) | refine Q.ct rfl ?_ | refine Q.cf rfl ?_ | (refine GQ.a ?_; refine Q.al (fun b1 => ?_)))
      refine S.cv v rfl (Get_spec v st 25 x s _ hwf.wf (by omega)) ?_
      rintro _ _ ⟨a5, c5, rfl, rfl⟩
      refine opsS_abs a5 (fun M3 hl3 hs3 => ?_)
      have hgl : (getV st x s).length ≤ 8 := getV_len hwf.wf x s
      have hso : openE st s [x] = 0 → Stay st s x (getV st x s) := Stay.of_open
      generalize openE st s [x] = ee at hso ⊢
      generalize getV st x s = g at hs3 hgl hso ⊢
      by_cases h10 : (k : Int) < 10
      · by_cases hE : ee = 0
        · repeat (first | (refine GQ.y ?_; refine Q.y ?_) | refine Q.go ?_ | (refine GQ.g ?_; refine Q.gq ?_) | (refine GQ.s ?_; refine Q.st ?_) | (refine GQ.g ?_; refine Q.gd ?_) | refine Q.ct rfl ?_ | refine Q.cf rfl ?_ | (refine GQ.a ?_; refine Q.al (fun b1 => ?_)))
          refine S.app rfl rfl (SrcS.sl RdC.row (by rfl) (by rfl)) (by rfl) (by omega) (by omega) (fun a6 c6 => ?_)
          repeat (first | (refine GQ.y ?_; refine Q.y ?_) | refine Q.go ?_ | (refine GQ.g ?_; refine Q.gq ?_) | (refine GQ.s ?_; refine Q.st ?_) | (refine GQ.g ?_; refine Q.gd ?_) | refine Q.ct rfl ?_ | refine Q.cf rfl ?_ | (refine GQ.a ?_; refine Q.al (fun b1 => ?_)))
          refine S.app rfl rfl (SrcS.sl RdC.row (by rfl) (by rfl)) (by rfl) (by omega) (by omega) (fun a7 c7 => ?_)
          repeat (first | (refine GQ.y ?_; refine Q.y ?_) | refine Q.go ?_ | (refine GQ.g ?_; refine Q.gq ?_) | (refine GQ.s ?_; refine Q.st ?_) | (refine GQ.g ?_; refine Q.gd ?_) | refine Q.ct rfl ?_ | refine Q.cf rfl ?_ | (refine GQ.a ?_; refine Q.al (fun b1 => ?_)))
          refine ⟨(k + 1, us ++ [⟨x, a5, c5, g⟩], a6, c6, a7, c7, M3), ⟨rfl, rfl, rfl, rfl, rfl, rfl, congrArg some (by simp), congrArg some (by simp), rfl, trivial⟩, ?_, ⟨by dsimp only; omega, by simp; omega, by simp; omega, fun o ho => ?_, fun o ho => ?_, hl2.trans hl3⟩, by dsimp only; omega⟩
          · dsimp only
            rw [len_snoc, flat_snoc, flat_snoc]
            repeat (first | exact Ent.refl _ | exact Ent.nil | refine Ent.pick ?_ | refine Ent.nilS ?_ | refine Ent.nilM ?_ | refine Ent.drop ?_)
          · rcases List.mem_append.1 ho with ho | ho
            · exact hst o ho
            · obtain rfl := List.mem_singleton.1 ho
              exact ⟨hso hE, by dsimp only; omega⟩
          · rcases List.mem_append.1 ho with ho | ho
            · exact (hok o ho).mono hl3
            · obtain rfl := List.mem_singleton.1 ho
              exact hs3
        · repeat (first | (refine GQ.y ?_; refine Q.y ?_) | refine Q.go ?_ | (refine GQ.g ?_; refine Q.gq ?_) | (refine GQ.s ?_; refine Q.st ?_) | (refine GQ.g ?_; refine Q.gd ?_) | refine Q.ct rfl ?_ | refine Q.cf rfl ?_ | (refine GQ.a ?_; refine Q.al (fun b1 => ?_)))
          refine ⟨(k + 1, us, a3, c3, a4, c4, M3), ⟨rfl, rfl, rfl, rfl, rfl, rfl, rfl, rfl, rfl, trivial⟩, by repeat (first | exact Ent.refl _ | exact Ent.nil | refine Ent.pick ?_ | refine Ent.nilS ?_ | refine Ent.nilM ?_ | refine Ent.drop ?_), ⟨by dsimp only; omega, by dsimp only; omega, hu10, hst, fun o ho => (hok o ho).mono hl3, hl2.trans hl3⟩, by dsimp only; omega⟩
      · repeat (first | (refine GQ.y ?_; refine Q.y ?_) | refine Q.go ?_ | (refine GQ.g ?_; refine Q.gq ?_) | (refine GQ.s ?_; refine Q.st ?_) | (refine GQ.g ?_; refine Q.gd ?_) | refine Q.ct rfl ?_ | refine Q.cf rfl ?_ | (refine GQ.a ?_; refine Q.al (fun b1 => ?_)))
        refine ⟨(k + 1, us, a3, c3, a4, c4, M3), ⟨rfl, rfl, rfl, rfl, rfl, rfl, rfl, rfl, rfl, trivial⟩, by repeat (first | exact Ent.refl _ | exact Ent.nil | refine Ent.pick ?_ | refine Ent.nilS ?_ | refine Ent.nilM ?_ | refine Ent.drop ?_), ⟨by dsimp only; omega, by dsimp only; omega, hu10, hst, fun o ho => (hok o ho).mono hl3, hl2.trans hl3⟩, by dsimp only; omega⟩
    · have hke : k = ids.length := by omega
      subst hke
      repeat (first | (refine GQ.y ?_; refine Q.y ?_) | refine Q.go ?_ | (refine GQ.g ?_; refine Q.gq ?_) | (refine GQ.s ?_; refine Q.st ?_) | (refine GQ.g ?_; refine Q.gd ?_) | refine Q.ct rfl ?_ | refine Q.cf rfl ?_ | (refine GQ.a ?_; refine Q.al (fun b1 => ?_)))
      exact ⟨(us, a3, c3, a4, c4, M2), ⟨rfl, rfl, rfl, rfl, rfl, rfl, trivial⟩, by repeat (first | exact Ent.refl _ | exact Ent.nil | refine Ent.pick ?_ | refine Ent.nilS ?_ | refine Ent.nilM ?_ | refine Ent.drop ?_), hu10, hst, hok, hl2⟩
  rintro ⟨us, a3, c3, a4, c4, M2⟩ ⟨hu10, hst, hok, hl2⟩
  dsimp only at hu10 hst hok hl2 ⊢
  replace hl2 := hl1.trans hl2
  clear hl1 hi hin ai ci ids
  repeat (first | (refine GQ.y ?_; refine Q.y ?_) | refine Q.go ?_ | (refine GQ.g ?_; refine Q.gq ?_) | (refine GQ.s ?_; refine Q.st ?_) | (refine GQ.g ?_; refine Q.gd ?_) | refine Q.ct rfl ?_ | refine Q.cf rfl ?_ | (refine GQ.a ?_; refine Q.al (fun b1 => ?_)))
  refine swp_addr a3 (fun ha3 => ?_)
  refine swp_addr a4 (fun ha4 => ?_)
  refine swp_cutB (σ := Unit) (fun _ => []) (fun _ => []) (fun _ => True) ?_ ?_
  · refine swp_loop (σ := Nat × VS × (Nat → Option Obj)) (fun u => [(2, .int .u64 s), (9, ptrV v), (11, ptrV b1), (14, .slice a3 us.length c3), (15, .slice a4 us.length c4), (83, .slice a' ys.length c'), (84, .int .i64 ys.length), (85, .int .i64 u.1)])
      (fun u => slO 45 1 a3 us.length c3 (us.flatMap cW) :: slO 23 1 a4 us.length c4 (us.flatMap cI2) :: vaultH v u.2.1 :: refH b1 u.2.1 :: roM u.2.2 :: [])
      (fun u => u.1 ≤ ys.length ∧ u.1 ≤ 25 ∧ WFK u.2.1 (25 + u.1) ∧ (∀ o ∈ us, Stay u.2.1 s o.id o.vec) ∧ leM M2 u.2.2) (fun u => ys.length - u.1) (0, st, M2) ⟨rfl, rfl, rfl, rfl, rfl, rfl, rfl, rfl, trivial⟩ (by repeat (first | exact Ent.refl _ | exact Ent.nil | refine Ent.pick ?_ | refine Ent.nilS ?_ | refine Ent.nilM ?_ | refine Ent.drop ?_)) ⟨by omega, by omega, hwf, fun o ho => (hst o ho).1, leM.refl M2⟩ ?_
    rintro ⟨k, st1, M3⟩ ⟨hk, hk25, hwf1, hst1, hl3⟩
    dsimp only at hk hk25 hwf1 hst1 hl3 ⊢
    by_cases hlt : k < ys.length
    · obtain ⟨o, ho⟩ := mem_get hlt
      obtain ⟨x1, x2, x3, x4⟩ := hy o (List.mem_of_getElem? ho)
      have hrs : RdS (slO 45 1 a3 us.length c3 (us.flatMap cW) :: slO 23 1 a4 us.length c4 (us.flatMap cI2) :: vaultH v st1 :: refH b1 st1 :: roM M3 :: []) a' ys.length 8 (ys.flatMap DV.cells) := (SlM.mono h' (hl2.trans hl3)).rd
      obtain ⟨b, oo, hia, hr⟩ := RdS.elem (g := DV.cells) (fun _ => rfl) hrs ho rfl
      rw [hia]
      by_cases h25 : (25 : Int) ≤ k
      · repeat (first | (refine GQ.y ?_; refine Q.y ?_) | refine Q.go ?_ | (refine GQ.g ?_; refine Q.gq ?_) | (refine GQ.s ?_; refine Q.st ?_) | (refine GQ.g ?_; refine Q.gd ?_) | refine Q.ct rfl ?_ | refine Q.cf rfl ?_ | (refine GQ.a ?_; refine Q.al (fun b1 => ?_)))
        exact ⟨(), trivial, by repeat (first | exact Ent.refl _ | exact Ent.nil | refine Ent.pick ?_ | refine Ent.nilS ?_ | refine Ent.nilM ?_ | refine Ent.drop ?_), trivial⟩
      · repeat (first | (refine GQ.y ?_; refine Q.y ?_) | refine Q.go ?_ | (refine GQ.g ?_; refine Q.gq ?_) | (refine GQ.s ?_; refine Q.st ?_) | (refine GQ.g ?_; refine Q.gd ?_) | refine Q.ct rfl ?_ | refine Q.cf rfl ?_ | (refine GQ.a ?_; refine Q.al (fun b1 => ?_)))
        rename_i bp
        refine opsS_ent (L' := vaultH v st1 :: refH bp st1 :: roM M3 :: [slO 45 1 a3 us.length c3 (us.flatMap cW), slO 23 1 a4 us.length c4 (us.flatMap cI2)]) (by repeat (first | exact Ent.refl _ | exact Ent.nil | refine Ent.pick ?_ | refine Ent.nilS ?_ | refine Ent.nilM ?_ | refine Ent.drop ?_)) ?_
        refine S.cr rfl (Do_spec v bp st1 _ { o with after := max o.after s } M3 _ hwf1.wf (by omega) ⟨x1.1.mono (hl2.trans hl3), fun u hu => (x1.2 u hu).mono (hl2.trans hl3)⟩ x2 x3 x4) ?_
        rintro _ _ ⟨rfl, M4, hl4, rfl⟩
        have hwf2 := hwf1.do_ { o with after := max o.after s }
        have hst2 : ∀ u ∈ us, Stay (doS st1 { o with after := max o.after s }) s u.id u.vec := fun u hu => (hst1 u hu).do_ hwf1 _ (by dsimp only; omega)
        generalize doS st1 { o with after := max o.after s } = st2 at hwf2 hst2 ⊢
        clear hwf1 hst1 hr hia hrs
        repeat (first | (refine GQ.y ?_; refine Q.y ?_) | refine Q.go ?_ | (refine GQ.g ?_; refine Q.gq ?_) | (refine GQ.s ?_; refine Q.st ?_) | (refine GQ.g ?_; refine Q.gd ?_) | refine Q.ct rfl ?_ | refine Q.cf rfl ?_ | (refine GQ.a ?_; refine Q.al (fun b1 => ?_)))
        refine swp_loop (σ := Nat) (fun u => [(2, .int .u64 s), (9, ptrV v), (11, ptrV bp), (14, .slice a3 us.length c3), (15, .slice a4 us.length c4), (83, .slice (some ⟨b, oo, none⟩) ys.length c'), (84, .int .i64 ys.length), (85, .int .i64 k), (104, .slice a4 us.length c4), (105, .int .i64 us.length), (106, .int .i64 u)])
          (fun _ => slO 45 1 a3 us.length c3 (us.flatMap cW) :: slO 23 1 a4 us.length c4 (us.flatMap cI2) :: vaultH v st2 :: refH bp st2 :: roM M4 :: []) (fun u => u ≤ us.length) (fun u => us.length - u) 0 ⟨rfl, rfl, rfl, rfl, rfl, rfl, rfl, rfl, rfl, rfl, rfl, trivial⟩ (by repeat (first | exact Ent.refl _ | exact Ent.nil | refine Ent.pick ?_ | refine Ent.nilS ?_ | refine Ent.nilM ?_ | refine Ent.drop ?_)) (by omega) ?_
        intro j hj
        by_cases hjl : j < us.length
        · obtain ⟨w, hw⟩ := mem_get hjl
          have hmw : w ∈ us := List.mem_of_getElem? hw
          have hwv := (hst w hmw).2
          rcases ha3 with ha3 | ⟨b3, rfl⟩
          · omega
          rcases ha4 with ha4 | ⟨b4, rfl⟩
          · omega
          have hr4 : RdC (slO 45 1 (some ⟨b3, 0, none⟩) us.length c3 (us.flatMap cW) :: slO 23 1 (some ⟨b4, 0, none⟩) us.length c4 (us.flatMap cI2) :: vaultH v st2 :: refH bp st2 :: roM M4 :: []) b4 (0 + j * 1) (cI2 w) := RdC.elem (g := cI2) (fun _ => rfl) RdC.ofS hw
          repeat (first | (refine GQ.y ?_; refine Q.y ?_) | refine Q.go ?_ | (refine GQ.g ?_; refine Q.gq ?_) | (refine GQ.s ?_; refine Q.st ?_) | (refine GQ.g ?_; refine Q.gd ?_) | refine Q.ct rfl ?_ | refine Q.cf rfl ?_ | (refine GQ.a ?_; refine Q.al (fun b1 => ?_)))
          refine S.cv v rfl (Get_spec v st2 _ w.id s _ hwf2.wf (by omega)) ?_
          rintro _ _ ⟨a5, c5, rfl, rfl⟩
          rcases (hst2 w hmw).get with ⟨e1, e2⟩ | e1
          · rw [e1, e2]
            refine opsS_addr a5 (fun ha5 => ?_)
            have hr3 : RdC (slO 21 1 a5 w.vec.length c5 (w.vec.map I32) :: vaultH v st2 :: slO 45 1 (some ⟨b3, 0, none⟩) us.length c3 (us.flatMap cW) :: slO 23 1 (some ⟨b4, 0, none⟩) us.length c4 (us.flatMap cI2) :: refH bp st2 :: roM M4 :: []) b3 (0 + j * 1) (cW w) := RdC.elem (g := cW) (fun _ => rfl) RdC.ofS hw
            repeat (first | (refine GQ.y ?_; refine Q.y ?_) | refine Q.go ?_ | (refine GQ.g ?_; refine Q.gq ?_) | (refine GQ.s ?_; refine Q.st ?_) | (refine GQ.g ?_; refine Q.gd ?_) | refine Q.ct rfl ?_ | refine Q.cf rfl ?_ | (refine GQ.a ?_; refine Q.al (fun b1 => ?_)))
            refine S.cr rfl (SameVec_spec a5 c5 w.vec w.a w.c w.vec _ (RdS.ofS (by simp) ha5) ((hok w hmw).mono (hl3.trans hl4)).rd (by omega)) ?_
            rintro _ _ ⟨rfl, rfl⟩
            rw [decide_eq_true rfl]
            repeat (first | (refine GQ.y ?_; refine Q.y ?_) | refine Q.go ?_ | (refine GQ.g ?_; refine Q.gq ?_) | (refine GQ.s ?_; refine Q.st ?_) | (refine GQ.g ?_; refine Q.gd ?_) | refine Q.ct rfl ?_ | refine Q.cf rfl ?_ | (refine GQ.a ?_; refine Q.al (fun b1 => ?_)))
            refine ⟨j + 1, ⟨rfl, rfl, rfl, rfl, rfl, rfl, rfl, rfl, rfl, rfl, rfl, trivial⟩, by repeat (first | exact Ent.refl _ | exact Ent.nil | refine Ent.pick ?_ | refine Ent.nilS ?_ | refine Ent.nilM ?_ | refine Ent.drop ?_), by omega, by omega⟩
          · rw [e1]
            repeat (first | (refine GQ.y ?_; refine Q.y ?_) | refine Q.go ?_ | (refine GQ.g ?_; refine Q.gq ?_) | (refine GQ.s ?_; refine Q.st ?_) | (refine GQ.g ?_; refine Q.gd ?_) | refine Q.ct rfl ?_ | refine Q.cf rfl ?_ | (refine GQ.a ?_; refine Q.al (fun b1 => ?_)))
            refine ⟨j + 1, ⟨rfl, rfl, rfl, rfl, rfl, rfl, rfl, rfl, rfl, rfl, rfl, trivial⟩, by repeat (first | exact Ent.refl _ | exact Ent.nil | refine Ent.pick ?_ | refine Ent.nilS ?_ | refine Ent.nilM ?_ | refine Ent.drop ?_), by omega, by omega⟩
        · have hje : j = us.length := by omega
          subst hje
          repeat (first | (refine GQ.y ?_; refine Q.y ?_) | refine Q.go ?_ | (refine GQ.g ?_; refine Q.gq ?_) | (refine GQ.s ?_; refine Q.st ?_) | (refine GQ.g ?_; refine Q.gd ?_) | refine Q.ct rfl ?_ | refine Q.cf rfl ?_ | (refine GQ.a ?_; refine Q.al (fun b1 => ?_)))
          refine ⟨(k + 1, st2, M4), ⟨rfl, rfl, rfl, rfl, rfl, rfl, rfl, rfl, trivial⟩, by repeat (first | exact Ent.refl _ | exact Ent.nil | refine Ent.pick ?_ | refine Ent.nilS ?_ | refine Ent.nilM ?_ | refine Ent.drop ?_), ⟨by dsimp only; omega, by dsimp only; omega, hwf2, hst2, hl3.trans hl4⟩, by dsimp only; omega⟩
    · have hke : k = ys.length := by omega
      subst hke
      repeat (first | (refine GQ.y ?_; refine Q.y ?_) | refine Q.go ?_ | (refine GQ.g ?_; refine Q.gq ?_) | (refine GQ.s ?_; refine Q.st ?_) | (refine GQ.g ?_; refine Q.gd ?_) | refine Q.ct rfl ?_ | refine Q.cf rfl ?_ | (refine GQ.a ?_; refine Q.al (fun b1 => ?_)))
      exact ⟨(), trivial, by repeat (first | exact Ent.refl _ | exact Ent.nil | refine Ent.pick ?_ | refine Ent.nilS ?_ | refine Ent.nilM ?_ | refine Ent.drop ?_), trivial⟩
  rintro ⟨⟩ -
  repeat (first | (refine GQ.y ?_; refine Q.y ?_) | refine Q.go ?_ | (refine GQ.g ?_; refine Q.gq ?_) | (refine GQ.s ?_; refine Q.st ?_) | (refine GQ.g ?_; refine Q.gd ?_) | refine Q.ct rfl ?_ | refine Q.cf rfl ?_ | (refine GQ.a ?_; refine Q.al (fun b1 => ?_)))
  exact N.r1 (RV.tmp rfl RV.nil) (Ent.refl _) rfl
end Go.Proofs.Ytieejgbjgcbbjaa
