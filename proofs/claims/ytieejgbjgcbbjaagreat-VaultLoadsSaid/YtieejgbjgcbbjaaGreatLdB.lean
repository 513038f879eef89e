/- VaultStays: what is answered stays so, as a law of states. No condition. -/
import Derived.Test.YtieejgbjgcbbjaaGreatVtV
import Derived.Test.YtieejgbjgcbbjaaGreatAskF
set_option linter.unusedVariables false
set_option linter.unusedSimpArgs false
namespace Go.Proofs.YtieejgbjgcbbjaaGreat
open Go Go.SX
theorem aft_snoc {vs : VL} {t s : Int} {x : List Int} (h : s < t) : aftN (vs ++ [(t, x)]) s = aftN vs s := by
  unfold aftN
  rw [List.filter_append, List.length_append]
  have : ¬ t ≤ s := by omega
  simp [this]
theorem at_snoc {vs : VL} {t s : Int} {x : List Int} (h : s < t) : atV (vs ++ [(t, x)]) s = atV vs s := by
  unfold atV
  rw [aft_snoc h]
  by_cases h0 : aftN vs s = 0
  · rw [if_pos h0, if_pos h0]
  · rw [if_neg h0, if_neg h0, List.getElem?_append_left (by have := aft_le vs s; omega)]
theorem aft_mono : ∀ (vs : VL) {m s : Int}, m ≤ s → aftN vs m ≤ aftN vs s
  | [], _, _, _ => Nat.le_refl _
  | v :: vs, m, s, h => by
    have := aft_mono vs h
    unfold aftN at *
    rw [List.filter_cons, List.filter_cons]
    by_cases h1 : v.1 ≤ m
    · have h2 : v.1 ≤ s := by omega
      simp [h1, h2]; omega
    · by_cases h2 : v.1 ≤ s
      · simp [h1, h2]; omega
      · simp [h1, h2]; omega
theorem aft_drop : ∀ {vs : VL} {s : Int} {k : Nat}, sortedV vs → k ≤ aftN vs s → aftN (vs.drop k) s = aftN vs s - k
  | [], _, _, _, hk => by simp [aftN] at *
  | v :: vs, s, 0, _, _ => rfl
  | v :: vs, s, k + 1, hs, hk => by
    have hs2 : sortedV vs := by
      unfold sortedV at hs ⊢
      rw [List.map_cons, List.pairwise_cons] at hs
      exact hs.2
    have hv : v.1 ≤ s := aft_lo hs 0 v (by omega) rfl
    have h1 : aftN (v :: vs) s = aftN vs s + 1 := by unfold aftN; simp [hv]
    rw [h1] at hk ⊢
    rw [List.drop_succ_cons, aft_drop hs2 (by omega)]
    omega
theorem at_cut {vs : VL} {m s : Int} (hs : sortedV vs) (h : m ≤ s) : atV (vs.drop (cutN vs m)) s = atV vs s := by
  have hm := aft_mono vs h
  have hc : cutN vs m ≤ aftN vs m := by
    unfold cutN
    split
    · omega
    · split <;> omega
  unfold atV
  rw [aft_drop hs (by omega)]
  by_cases h0 : aftN vs s = 0
  · rw [if_pos h0, if_pos (by omega)]
  rw [if_neg h0]
  by_cases h1 : aftN vs s - cutN vs m = 0
  · rw [if_pos h1]
    have h2 : aftN vs s = aftN vs m := by omega
    have h3 : cutN vs m = aftN vs m := by omega
    unfold cutN at h3
    rw [if_neg (by omega)] at h3
    by_cases h4 : 0 < (((vs[aftN vs m - 1]?).map (·.2)).getD []).length
    · rw [if_pos h4] at h3; omega
    · rw [h2]
      exact (List.length_eq_zero_iff.1 (by omega)).symm
  · rw [if_neg h1, List.getElem?_drop, show cutN vs m + (aftN vs s - cutN vs m - 1) = aftN vs s - 1 by omega]
theorem lkL_delS {κ α : Type} [DecidableEq κ] (m : List (κ × α)) (x : κ) : lkL (delL m x) x = none := lkL_none fun u hu => by
  have := (List.mem_filter.1 hu).2
  simpa using this
theorem ch_sw1 {m : Int} {u : List (Int × VL) × GL} (h : keysOK u.1) (x id : Int) : chV (sw1 m u x).1 id = if id = x then (chV u.1 id).drop (cutN (chV u.1 id) m) else chV u.1 id := by
  by_cases he : id = x
  · subst he
    rw [if_pos rfl]
    unfold sw1
    dsimp only
    by_cases h0 : ((chV u.1 id).drop (cutN (chV u.1 id) m)).length = 0
    · rw [if_pos h0, List.length_eq_zero_iff.1 h0]
      show (lkL (delL u.1 id) id).getD [] = []
      rw [lkL_delS]; rfl
    · rw [if_neg h0]
      generalize (chV u.1 id).drop (cutN (chV u.1 id) m) = w
      unfold chV
      rw [lkL_put h, if_pos rfl]; rfl
  · rw [if_neg he]
    unfold chV
    rw [sw1_lk h he]
theorem ch_swF {m : Int} {id : Int} : ∀ {ks : List Int} {u : List (Int × VL) × GL}, keysOK u.1 → ks.Nodup → chV (ks.foldl (sw1 m) u).1 id = if id ∈ ks then (chV u.1 id).drop (cutN (chV u.1 id) m) else chV u.1 id
  | [], _, _, _ => by simp
  | k :: ks, u, h, hn => by
    simp only [List.nodup_cons] at hn
    show chV (ks.foldl (sw1 m) (sw1 m u k)).1 id = _
    rw [ch_swF (ks := ks) (sw1_ok h k) hn.2, ch_sw1 h]
    by_cases he : id = k
    · subst he
      simp [hn.1]
    · simp [he]
theorem ch_sweep {m : Int} {ch : List (Int × VL)} (h : keysOK ch) (id : Int) : chV (swF m (swIds ch) ch).1 id = (chV ch id).drop (cutN (chV ch id) m) := by
  unfold swF
  rw [ch_swF (u := (ch, [])) h (swIds_nodup h)]
  by_cases hi : id ∈ swIds ch
  · rw [if_pos hi]
  · rw [if_neg hi]
    have : chV ch id = [] := by
      unfold chV
      cases hz : lkL ch id with
      | none => rfl
      | some vs =>
        exfalso
        apply hi
        unfold swIds
        exact (sortL_perm _).mem_iff.2 (List.mem_map_of_mem (f := (·.1)) (lk_memL hz))
    show chV ch id = _
    rw [this]
    simp
theorem ch_apply {s : Int} {id : Int} : ∀ {ops : VL} {ch : List (Int × VL)}, keysOK ch → (ops.map (·.1)).Nodup → chV (applyC s ch ops) id = chV ch id ∨ (holdsV ops id = true ∧ ∃ x, chV (applyC s ch ops) id = chV ch id ++ [(s, x)])
  | [], _, _, _ => .inl rfl
  | o :: ops, ch, h, hn => by
    simp only [List.map_cons, List.nodup_cons] at hn
    by_cases he : id = o.1
    · refine .inr ⟨by simp [holdsV, he], o.2, ?_⟩
      show chV (applyC s (putC s ch o) ops) id = _
      rw [he]
      conv => lhs; unfold chV
      rw [lk_apply (putL_ok' h s o) hn.1]
      unfold putC
      rw [lkL_put h, if_pos rfl]; rfl
    · have h2 : chV (putC s ch o) id = chV ch id := by
        unfold chV putC
        rw [lkL_put h, if_neg he]
      rcases ch_apply (s := s) (id := id) (ops := ops) (putL_ok' h s o) hn.2 with h1 | ⟨h1, x, h3⟩
      · exact .inl (h1.trans h2)
      · exact .inr ⟨by simp [holdsV] at h1 ⊢; exact .inr h1, x, h3.trans (by rw [h2])⟩
structure Stay (st : VS) (s id : Int) (w : List Int) : Prop where
  b : ∀ i ∈ st.its, i.2.1 < s → holdsV i.2.2 id = false
  a : st.mark ≤ s → atV (chV st.ch id) s = w
theorem blocked_one (st : VS) (s id : Int) : blockedV st s [id] = false ↔ ∀ i ∈ st.its, i.2.1 < s → holdsV i.2.2 id = false := by
  unfold blockedV
  rw [List.any_eq_false]
  constructor
  · intro h i hi hs
    have := h i hi
    simpa [hs] using this
  · intro h i hi
    by_cases hs : i.2.1 < s
    · simp [h i hi hs]
    · simp [hs]
theorem Stay.of_open {st : VS} {s id : Int} (h : openE st s [id] = 0) : Stay st s id (getV st id s) := by
  have hE := h
  unfold openE at h
  by_cases hb : blockedV st s [id] = true
  · rw [if_pos hb] at h; cases h
  rw [if_neg hb] at h
  refine ⟨(blocked_one st s id).1 (by simpa using hb), fun _ => ?_⟩
  unfold getV
  rw [if_neg (by rw [hE]; simp)]
theorem Stay.get {st : VS} {s id : Int} {w : List Int} (h : Stay st s id w) : (openE st s [id] = 0 ∧ getV st id s = w) ∨ openE st s [id] = 12 := by
  have hb : ¬ blockedV st s [id] = true := by rw [(blocked_one st s id).2 h.b]; exact Bool.false_ne_true
  by_cases hm : s < st.mark
  · exact .inr (by unfold openE; rw [if_neg hb, if_pos hm])
  · have hE : openE st s [id] = 0 := by unfold openE; rw [if_neg hb, if_neg hm]
    exact .inl ⟨hE, by unfold getV; rw [if_neg (by rw [hE]; simp)]; exact h.a (by omega)⟩
theorem Stay.do_ {st : VS} {n : Nat} {s id : Int} {w : List Int} (hw : WFK st n) (h : Stay st s id w) (o : DV) (ho : s ≤ o.after) : Stay (doS st o) s id w := by
  unfold doS
  split
  · exact ⟨fun i hi => h.b i (List.mem_filter.1 hi).1, h.a⟩
  split
  · unfold applyS
    split
    · exact h
    · rename_i i hi
      split
      · rename_i hE
        refine ⟨fun j hj => h.b j (List.mem_filter.1 hj).1, fun hm => ?_⟩
        have hmi := lk_memL hi
        unfold applyE at hE
        rw [hi] at hE
        dsimp only at hE
        have hlt : i.1 < o.stamp := by
          by_cases hc : o.stamp = 0 ∨ 1099511627776 < o.stamp ∨ o.stamp ≤ i.1
          · rw [if_pos hc] at hE; cases hE
          · omega
        dsimp only at hm ⊢
        rcases ch_apply (s := o.stamp) (id := id) hw.k1 (hw.wf.io _ hmi).2.1 with h1 | ⟨h1, x, h2⟩
        · rw [h1]; exact h.a hm
        · rw [h2, at_snoc, h.a hm]
          by_cases hs : i.1 < s
          · have := h.b _ hmi hs
            dsimp only at this
            rw [this] at h1; cases h1
          · omega
      · exact h
  split
  · unfold sweepS
    split
    · exact h
    · rename_i hm
      refine ⟨h.b, fun hm2 => ?_⟩
      dsimp only at hm2 ⊢
      rw [ch_sweep hw.k1, at_cut]
      · exact h.a (by omega)
      · unfold chV
        cases hz : lkL st.ch id with
        | none => exact List.Pairwise.nil
        | some vs => exact (hw.wf.co _ (lk_memL hz)).1
      · exact hm2
  · unfold lockS
    split
    · refine ⟨fun i hi hs => ?_, h.a⟩
      rcases List.mem_append.1 hi with hi | hi
      · exact h.b i hi hs
      · obtain rfl := List.mem_singleton.1 hi
        dsimp only at hs
        omega
    · exact h
end Go.Proofs.YtieejgbjgcbbjaaGreat
/- VaultLoads: what a load takes, as a law of states. No condition. -/
namespace Go.Proofs.YtieejgbjgcbbjaaGreat
open Go Go.SX
structure okP (vs : VL) : Prop where
  s : sortedV vs
  v : ∀ v ∈ vs, 0 < v.1 ∧ v.1 ≤ 1099511627776 ∧ (0 < v.2.length → rightV v.2 = true)
def putsE : VL → VL → Int
  | _, [] => 0
  | p, v :: q => if putE p v.1 v.2 ≠ 0 then putE p v.1 v.2 else putsE (p ++ [v]) q
theorem okP.last {p : VL} (h : okP p) : 0 ≤ lastS p := by
  unfold lastS
  cases hg : p.getLast? with
  | none => simp
  | some l =>
    have := (h.v l (List.mem_of_getLast? hg)).1
    simp; omega
theorem putE_0 {p : VL} {s : Int} {x : List Int} (h : putE p s x = 0) : s ≠ 0 ∧ s ≤ 1099511627776 ∧ (0 < x.length → rightV x = true) ∧ lastS p < s := by
  unfold putE at h
  by_cases h1 : s = 0 ∨ 1099511627776 < s
  · rw [if_pos h1] at h; cases h
  rw [if_neg h1] at h
  by_cases h2 : 0 < x.length ∧ rightV x = false
  · rw [if_pos h2] at h; cases h
  rw [if_neg h2] at h
  by_cases h3 : s ≤ lastS p
  · rw [if_pos h3] at h; cases h
  refine ⟨fun e => h1 (.inl e), by omega, fun hx => ?_, by omega⟩
  cases hr : rightV x with
  | true => rfl
  | false => exact absurd ⟨hx, hr⟩ h2
theorem sorted_snoc {p : VL} {v : Int × List Int} (h : sortedV p) (hl : lastS p < v.1) : sortedV (p ++ [v]) := by
  have h2 := sorted_last h
  unfold sortedV at *
  rw [List.map_append, List.pairwise_append]
  refine ⟨h, by simp, fun a ha b hb => ?_⟩
  obtain ⟨u, hu, rfl⟩ := List.mem_map.1 ha
  simp at hb
  subst hb
  have := h2 u hu
  omega
theorem okP.snoc {p : VL} {v : Int × List Int} (h : okP p) (hE : putE p v.1 v.2 = 0) : okP (p ++ [v]) := by
  obtain ⟨h1, h2, h3, h4⟩ := putE_0 hE
  have := h.last
  refine ⟨sorted_snoc h.s h4, fun u hu => ?_⟩
  rcases List.mem_append.1 hu with hu | hu
  · exact h.v u hu
  · obtain rfl := List.mem_singleton.1 hu
    exact ⟨by omega, h2, h3⟩
theorem puts_ok : ∀ {q p : VL}, okP p → putsE p q = 0 → okP (p ++ q)
  | [], p, h, _ => by rw [List.append_nil]; exact h
  | v :: q, p, h, he => by
    unfold putsE at he
    by_cases hE : putE p v.1 v.2 ≠ 0
    · rw [if_pos hE] at he; exact absurd he hE
    rw [if_neg hE] at he
    have := puts_ok (q := q) (h.snoc (Decidable.not_not.1 hE)) he
    rwa [List.append_assoc] at this
theorem okP.put {p q : VL} {v : Int × List Int} (h : okP (p ++ v :: q)) : putE p v.1 v.2 = 0 := by
  have hv := h.v v (by simp)
  have hl : lastS p < v.1 := by
    unfold lastS
    cases hg : p.getLast? with
    | none => simp; omega
    | some l =>
      have hm := List.mem_of_getLast? hg
      have hs := h.s
      unfold sortedV at hs
      rw [List.map_append, List.pairwise_append] at hs
      exact hs.2.2 _ (List.mem_map_of_mem hm) _ (by simp)
  unfold putE
  rw [if_neg (by omega), if_neg (fun hh => by have := hv.2.2 hh.1; rw [hh.2] at this; cases this), if_neg (by omega)]
theorem ok_puts : ∀ {q p : VL}, okP (p ++ q) → putsE p q = 0
  | [], p, _ => rfl
  | v :: q, p, h => by
    unfold putsE
    rw [if_neg (by rw [h.put]; simp)]
    refine ok_puts (q := q) (p := p ++ [v]) ?_
    rwa [List.append_assoc]
def badD (dim : Int) (v : Int × List Int) : Bool := decide (0 < v.2.length) && decide ((v.2.length : Int) ≠ dim)
def badE (dim : Int) (ch : List (Int × VL)) (e : Int × VL) : Bool := decide (1099511627776 < e.1) || (lkL ch e.1).isSome || decide (e.2.length = 0) || decide (putsE [] e.2 ≠ 0) || e.2.any (badD dim)
def ldF (dim : Int) : List (Int × VL) → List (Int × VL) → Option (List (Int × VL))
  | ch, [] => some ch
  | ch, e :: l => if badE dim ch e then none else ldF dim (ch ++ [e]) l
def loadE (st : VS) (mark : Int) (l : List (Int × VL)) : Int := if 1099511627776 < mark then 1 else if (ldF st.dim [] l).isNone then 4 else if 0 < st.ch.length ∨ 0 < st.its.length ∨ 0 < st.mark then 10 else 0
def loadS (st : VS) (mark : Int) (l : List (Int × VL)) : VS := if loadE st mark l = 0 then { st with ch := l, mark := mark } else st
structure goodC (dim : Int) (c : Int × VL) : Prop where
  i : c.1 ≤ 1099511627776
  n : 0 < c.2.length
  p : okP c.2
  d : ∀ v ∈ c.2, 0 < v.2.length → (v.2.length : Int) = dim
theorem bad_good {dim : Int} {ch : List (Int × VL)} {e : Int × VL} : badE dim ch e = false ↔ goodC dim e ∧ lkL ch e.1 = none := by
  unfold badE
  simp only [Bool.or_eq_false_iff, decide_eq_false_iff_not, Decidable.not_not]
  constructor
  · rintro ⟨⟨⟨⟨h1, h2⟩, h3⟩, h4⟩, h5⟩
    refine ⟨⟨by omega, by omega, by have := puts_ok (p := []) ⟨List.Pairwise.nil, by simp⟩ h4; simpa using this, fun v hv hl => ?_⟩, ?_⟩
    · have := List.any_eq_false.1 h5 v hv
      unfold badD at this
      simp [hl] at this
      exact this
    · cases hz : lkL ch e.1 with
      | none => rfl
      | some w => rw [hz] at h2; cases h2
  · rintro ⟨h, h2⟩
    refine ⟨⟨⟨⟨by have := h.i; omega, by rw [h2]; rfl⟩, by have := h.n; omega⟩, ok_puts (by simpa using h.p)⟩, List.any_eq_false.2 fun v hv => ?_⟩
    have := h.d v hv
    unfold badD
    simp
    intro hl
    exact this (by omega)
theorem ldF_some {dim : Int} : ∀ {l ch ch' : List (Int × VL)}, keysOK ch → ldF dim ch l = some ch' → ch' = ch ++ l ∧ keysOK (ch ++ l) ∧ ∀ e ∈ l, goodC dim e
  | [], ch, ch', hk, h => by
    unfold ldF at h
    exact ⟨by rw [← Option.some.inj h, List.append_nil], by rw [List.append_nil]; exact hk, by simp⟩
  | e :: l, ch, ch', hk, h => by
    unfold ldF at h
    cases hb : badE dim ch e with
    | true => rw [hb] at h; cases h
    | false =>
      rw [hb] at h
      obtain ⟨hg, hn⟩ := bad_good.1 hb
      obtain ⟨h1, h2, h3⟩ := ldF_some (l := l) (ch := ch ++ [e]) (ch' := ch') (keys_snoc hk _ hn) h
      rw [List.append_assoc] at h1 h2
      refine ⟨h1, h2, fun f hf => ?_⟩
      rcases List.mem_cons.1 hf with rfl | hf
      · exact hg
      · exact h3 f hf
theorem ldF_ok {dim : Int} : ∀ {l ch : List (Int × VL)}, keysOK (ch ++ l) → (∀ e ∈ l, goodC dim e) → ldF dim ch l = some (ch ++ l)
  | [], ch, _, _ => by unfold ldF; rw [List.append_nil]
  | e :: l, ch, hk, hg => by
    have hn : lkL ch e.1 = none := lkL_none fun u hu he => by
      unfold keysOK at hk
      rw [List.map_append, List.nodup_append] at hk
      exact hk.2.2 u.1 (List.mem_map_of_mem hu) e.1 (by simp) he
    unfold ldF
    rw [bad_good.2 ⟨hg e (by simp), hn⟩, if_neg (by simp)]
    have := ldF_ok (l := l) (ch := ch ++ [e]) (by rwa [List.append_assoc]) (fun f hf => hg f (List.mem_cons_of_mem _ hf))
    rwa [List.append_assoc] at this
structure GS (st : VS) : Prop where
  c : ∀ c ∈ st.ch, goodC st.dim c
  i : ∀ i ∈ st.its, ∀ o ∈ i.2.2, o.1 ≤ 1099511627776 ∧ (0 < o.2.length → rightV o.2 = true ∧ (o.2.length : Int) = st.dim)
  m : st.mark ≤ 1099511627776
theorem doS_dim (st : VS) (o : DV) : (doS st o).dim = st.dim := by
  unfold doS
  split
  · rfl
  split
  · unfold applyS
    split
    · rfl
    · split <;> rfl
  split
  · unfold sweepS
    split <;> rfl
  · unfold lockS
    split <;> rfl
theorem sw1_ne {s : Int} {u : List (Int × VL) × GL} (hk : keysOK u.1) (h : ∀ c ∈ u.1, 0 < c.2.length) (id : Int) : ∀ c ∈ (sw1 s u id).1, 0 < c.2.length := by
  intro c hc
  unfold sw1 at hc
  dsimp only at hc
  by_cases h0 : ((chV u.1 id).drop (cutN (chV u.1 id) s)).length = 0
  · rw [if_pos h0] at hc
    exact h c (List.mem_filter.1 hc).1
  · rw [if_neg h0] at hc
    have h1 := (lkL_iff (putL_ok hk id _)).2 (show (c.1, c.2) ∈ _ from hc)
    rw [lkL_put hk] at h1
    by_cases he : c.1 = id
    · rw [if_pos he] at h1
      rw [← Option.some.inj h1]; omega
    · rw [if_neg he] at h1
      exact h _ (lk_memL h1)
theorem swF_ne {s : Int} : ∀ {ks : List Int} {u : List (Int × VL) × GL}, keysOK u.1 → (∀ c ∈ u.1, 0 < c.2.length) → ∀ c ∈ (ks.foldl (sw1 s) u).1, 0 < c.2.length
  | [], _, _, h => h
  | k :: ks, u, hk, h => swF_ne (ks := ks) (sw1_ok hk k) (sw1_ne hk h k)
theorem okP.drop {vs : VL} (h : okP vs) (k : Nat) : okP (vs.drop k) := by
  refine ⟨?_, fun v hv => h.v v (List.mem_of_mem_drop hv)⟩
  have := h.s
  unfold sortedV at this ⊢
  rw [List.map_drop]
  exact this.sublist (List.drop_sublist _ _)
theorem chV_of {ch : List (Int × VL)} {id : Int} {vs : VL} (h : lkL ch id = some vs) : chV ch id = vs := by unfold chV; rw [h]; rfl
theorem GS.do_ {st : VS} {n : Nat} (hw : WFK st n) (h : GS st) (o : DV) (ho : 0 ≤ o.stamp) : GS (doS st o) := by
  unfold doS
  split
  · exact ⟨h.c, fun i hi => h.i i (List.mem_filter.1 hi).1, h.m⟩
  split
  · unfold applyS
    split
    · exact h
    · rename_i i hi
      split
      · rename_i hE
        have hmi := lk_memL hi
        unfold applyE at hE
        rw [hi] at hE
        dsimp only at hE
        by_cases h1 : o.stamp = 0 ∨ 1099511627776 < o.stamp ∨ o.stamp ≤ i.1
        · rw [if_pos h1] at hE; cases hE
        rw [if_neg h1] at hE
        by_cases h2 : (i.2.any fun w => decide (o.stamp ≤ lastS (chV st.ch w.1))) = true
        · rw [if_pos h2] at hE; cases hE
        refine ⟨fun c hc => ?_, fun j hj => h.i j (List.mem_filter.1 hj).1, h.m⟩
        rcases applyC_mem hw.k1 (hw.wf.io _ hmi).2.1 hc with hc | ⟨w, hwm, rfl⟩
        · exact h.c c hc
        · have hio := h.i _ hmi w hwm
          have hlt : lastS (chV st.ch w.1) < o.stamp := by
            by_cases hh : o.stamp ≤ lastS (chV st.ch w.1)
            · exact absurd (List.any_eq_true.2 ⟨w, hwm, decide_eq_true hh⟩) h2
            · omega
          have hcv : okP (chV st.ch w.1) ∧ ∀ v ∈ chV st.ch w.1, 0 < v.2.length → (v.2.length : Int) = st.dim := by
            unfold chV
            cases hz : lkL st.ch w.1 with
            | none => exact ⟨⟨List.Pairwise.nil, by simp⟩, by simp⟩
            | some vs => have := h.c _ (lk_memL hz); exact ⟨this.p, this.d⟩
          refine ⟨hio.1, by simp, ⟨sorted_snoc hcv.1.s hlt, fun v hv => ?_⟩, fun v hv hl => ?_⟩
          · rcases List.mem_append.1 hv with hv | hv
            · exact hcv.1.v v hv
            · obtain rfl := List.mem_singleton.1 hv
              exact ⟨by dsimp only; omega, by dsimp only; omega, fun hl => (hio.2 hl).1⟩
          · rcases List.mem_append.1 hv with hv | hv
            · exact hcv.2 v hv hl
            · obtain rfl := List.mem_singleton.1 hv
              exact (hio.2 hl).2
      · exact h
  split
  · unfold sweepS
    split
    · exact h
    · refine ⟨fun c hc => ?_, h.i, by dsimp only; omega⟩
      dsimp only at hc ⊢
      have hk' := swF_ok (s := min o.stamp 1099511627776) (ks := swIds st.ch) (u := (st.ch, [])) hw.k1
      have h1 := (lkL_iff hk').2 (show (c.1, c.2) ∈ _ from hc)
      have h2 := ch_sweep (m := min o.stamp 1099511627776) hw.k1 c.1
      have h2' : chV (swF (min o.stamp 1099511627776) (swIds st.ch) st.ch).1 c.1 = c.2 := chV_of h1
      rw [h2'] at h2
      have hne := swF_ne (s := min o.stamp 1099511627776) (ks := swIds st.ch) (u := (st.ch, [])) hw.k1 (fun c hc => (h.c c hc).n) c hc
      cases hz : lkL st.ch c.1 with
      | none =>
        have : chV st.ch c.1 = [] := by unfold chV; rw [hz]; rfl
        rw [this] at h2
        rw [h2] at hne
        simp at hne
      | some vs =>
        have hg := h.c _ (lk_memL hz)
        rw [chV_of hz] at h2
        refine ⟨hg.i, hne, by rw [h2]; exact hg.p.drop _, fun v hv => ?_⟩
        rw [h2] at hv
        exact hg.d v (List.mem_of_mem_drop hv)
  · unfold lockS
    split
    · rename_i hE
      refine ⟨h.c, fun i hi => ?_, h.m⟩
      rcases List.mem_append.1 hi with hi | hi
      · exact h.i i hi
      · obtain rfl := List.mem_singleton.1 hi
        dsimp only
        intro w hw2
        generalize fewV 18 (o.ops.map OV.abs) = ops at hE hw2
        unfold lockE at hE
        by_cases h1 : 1099511627776 < o.after
        · rw [if_pos h1] at hE; cases hE
        rw [if_neg h1] at hE
        by_cases h2 : checkV st.dim ops ≠ 0
        · rw [if_pos h2] at hE; exact absurd hE h2
        have h3 := Decidable.not_not.1 h2
        unfold checkV at h3
        by_cases g1 : st.dim < 1 ∨ 8 < st.dim
        · rw [if_pos g1] at h3; cases h3
        rw [if_neg g1] at h3
        by_cases g2 : ops.length = 0
        · rw [if_pos g2] at h3; cases h3
        rw [if_neg g2] at h3
        by_cases g3 : 16 < ops.length
        · rw [if_pos g3] at h3; cases h3
        rw [if_neg g3] at h3
        by_cases g4 : ops.any (badO st.dim) = true
        · rw [if_pos g4] at h3; cases h3
        have g5 := List.any_eq_false.1 (by simpa using g4) w hw2
        unfold badO at g5
        simp only [Bool.or_eq_true, Bool.and_eq_true, decide_eq_true_eq, Bool.not_eq_true', not_or, not_and] at g5
        refine ⟨by omega, fun hl => ?_⟩
        have g6 := g5.2 hl
        refine ⟨by simpa using g6.1, ?_⟩
        have := g6.2
        omega
    · exact h
theorem load_ok {st : VS} {mark : Int} {l : List (Int × VL)} (h : loadE st mark l = 0) : keysOK l ∧ (∀ e ∈ l, goodC st.dim e) ∧ mark ≤ 1099511627776 ∧ st.its = [] := by
  unfold loadE at h
  by_cases h1 : 1099511627776 < mark
  · rw [if_pos h1] at h; cases h
  rw [if_neg h1] at h
  cases hl : ldF st.dim [] l with
  | none => rw [hl] at h; cases h
  | some ch =>
    rw [hl] at h
    simp only [Option.isNone_some, Bool.false_eq_true, if_false] at h
    by_cases h2 : 0 < st.ch.length ∨ 0 < st.its.length ∨ 0 < st.mark
    · rw [if_pos h2] at h; cases h
    obtain ⟨_, g2, g3⟩ := ldF_some (by simp [keysOK]) hl
    exact ⟨by simpa using g2, g3, by omega, List.eq_nil_of_length_eq_zero (by omega)⟩
theorem load_wf {st : VS} {mark : Int} {l : List (Int × VL)} (hw : WFK st 6) (hg : GS st) (hl : l.length ≤ 8) (hv : ∀ e ∈ l, e.2.length ≤ 6) : WFK (loadS st mark l) 6 ∧ GS (loadS st mark l) := by
  unfold loadS
  by_cases hE : loadE st mark l = 0
  · rw [if_pos hE]
    obtain ⟨h1, h2, h3, h4⟩ := load_ok hE
    refine ⟨⟨⟨hw.wf.d1, hw.wf.d2, hw.wf.il, hw.wf.io, by dsimp only; omega, fun c hc => ?_⟩, h1, hw.k2⟩, ⟨h2, hg.i, h3⟩⟩
    have := h2 c hc
    refine ⟨this.p.s, hv c hc, fun v hvm => ?_⟩
    have h5 := (this.p.v v hvm).2.2
    by_cases h0 : 0 < v.2.length
    · have h6 := h5 h0
      unfold rightV at h6
      simp at h6
      omega
    · omega
  · rw [if_neg hE]; exact ⟨hw, hg⟩
theorem load_again {dim mark : Int} {l : List (Int × VL)} (hk : keysOK l) (hg : ∀ e ∈ l, goodC dim e) (hm : mark ≤ 1099511627776) : loadE ⟨dim, [], [], 0⟩ mark l = 0 := by
  unfold loadE
  rw [if_neg (by omega), ldF_ok (ch := []) (by simpa using hk) hg]
  simp
end Go.Proofs.YtieejgbjgcbbjaaGreat
/- The vault: chain.New, Load. No condition. -/
namespace Go.Proofs.YtieejgbjgcbbjaaGreat
open Go Go.SX
attribute [local irreducible] swp opsS thenS blockS retS CallsS St Ent YieldS anyS drawS
theorem drop_at' {α : Type} {l : List α} {k : Nat} {x : α} (h : l[k]? = some x) : l.drop k = x :: l.drop (k + 1) := by
  obtain ⟨hlt, e⟩ := List.getElem?_eq_some_iff.1 h
  rw [List.drop_eq_getElem_cons hlt, e]
theorem IdxV_spec (f : FuncId) (fs cs : List Value) [he : Enters Tryz.prog f] (p : OV → Bool) (a : Option Addr) (c : Nat) (xs : List OV) (A : List HP) (h : RdS A a xs.length 2 (xs.flatMap OV.cells)) (hn : xs.length ≤ 4611686018427387904)
    (hf : ∀ x ∈ xs, CallsS Tryz.prog f (fs ++ [OV.val x] ++ cs) A (fun v L' => v = .bool (p x) ∧ L' = A)) :
    CallsS Tryz.prog 56 [.slice a xs.length c, .func (.func f) fs.toArray cs.toArray] A (fun v L' => (∃ i : Int, v = .int .i64 i ∧ decide (0 ≤ i) = xs.any p) ∧ L' = A) := by
  refine CallsS.of_body Tryz.func56 rfl rfl rfl ?_
  repeat (first | (refine GQ.y ?_; refine Q.y ?_) | refine Q.go ?_ | (refine GQ.g ?_; refine Q.gq ?_) | (refine GQ.s ?_; refine Q.st ?_) | (refine GQ.g ?_; refine Q.gd ?_) | refine Q.ct rfl ?_ | refine Q.cf rfl ?_ | (refine GQ.a ?_; refine Q.al (fun b1 => ?_)))
  refine swp_loop (σ := Nat) (fun k => [(0, .slice a xs.length c), (1, .func (.func f) fs.toArray cs.toArray), (7, .int .i64 xs.length), (8, .int .i64 k)]) (fun _ => A)
    (fun k => k ≤ xs.length ∧ (xs.take k).any p = false) (fun k => xs.length - k) 0 ⟨rfl, rfl, rfl, rfl, trivial⟩ (Ent.refl _) ⟨by omega, by simp⟩ ?_
  rintro k ⟨hk, hany⟩
  by_cases hlt : k < xs.length
  · obtain ⟨x, hx⟩ := mem_get hlt
    obtain ⟨b, o, rfl, hr⟩ := RdS.elem (g := OV.cells) (fun _ => rfl) h hx rfl
    have hmx : x ∈ xs := List.mem_of_getElem? hx
    repeat (first | (refine GQ.y ?_; refine Q.y ?_) | refine Q.go ?_ | (refine GQ.g ?_; refine Q.gq ?_) | (refine GQ.s ?_; refine Q.st ?_) | (refine GQ.g ?_; refine Q.gd ?_) | refine Q.ct rfl ?_ | refine Q.cf rfl ?_ | (refine GQ.a ?_; refine Q.al (fun b1 => ?_)))
    refine S.crF (fs := fs) (cs := cs) rfl rfl (hf x hmx) ?_
    rintro _ _ ⟨rfl, rfl⟩
    cases hp : p x with
    | true =>
      repeat (first | (refine GQ.y ?_; refine Q.y ?_) | refine Q.go ?_ | (refine GQ.g ?_; refine Q.gq ?_) | (refine GQ.s ?_; refine Q.st ?_) | (refine GQ.g ?_; refine Q.gd ?_) | refine Q.ct rfl ?_ | refine Q.cf rfl ?_ | (refine GQ.a ?_; refine Q.al (fun b1 => ?_)))
      exact N.r1 (RV.tmp rfl RV.nil) (Ent.refl _) ⟨⟨_, rfl, by rw [show xs.any p = true from List.any_eq_true.2 ⟨x, hmx, hp⟩]; simp⟩, rfl⟩
    | false =>
      repeat (first | (refine GQ.y ?_; refine Q.y ?_) | refine Q.go ?_ | (refine GQ.g ?_; refine Q.gq ?_) | (refine GQ.s ?_; refine Q.st ?_) | (refine GQ.g ?_; refine Q.gd ?_) | refine Q.ct rfl ?_ | refine Q.cf rfl ?_ | (refine GQ.a ?_; refine Q.al (fun b1 => ?_)))
      refine ⟨k + 1, ⟨rfl, rfl, rfl, rfl, trivial⟩, Ent.refl _, ⟨by omega, ?_⟩, by omega⟩
      rw [take_snoc hx, List.any_append, hany] <;> simp [hp]
  · have hke : k = xs.length := by omega
    subst hke
    rw [List.take_length] at hany
    repeat (first | (refine GQ.y ?_; refine Q.y ?_) | refine Q.go ?_ | (refine GQ.g ?_; refine Q.gq ?_) | (refine GQ.s ?_; refine Q.st ?_) | (refine GQ.g ?_; refine Q.gd ?_) | refine Q.ct rfl ?_ | refine Q.cf rfl ?_ | (refine GQ.a ?_; refine Q.al (fun b1 => ?_)))
    exact N.r1 (RV.tmp rfl RV.nil) (Ent.refl _) ⟨⟨_, rfl, by rw [hany] <;> rfl⟩, rfl⟩
theorem HasV_spec (f : FuncId) (fs cs : List Value) [he : Enters Tryz.prog f] (p : OV → Bool) (a : Option Addr) (c : Nat) (xs : List OV) (A : List HP) (h : RdS A a xs.length 2 (xs.flatMap OV.cells)) (hn : xs.length ≤ 4611686018427387904)
    (hf : ∀ x ∈ xs, CallsS Tryz.prog f (fs ++ [OV.val x] ++ cs) A (fun v L' => v = .bool (p x) ∧ L' = A)) :
    CallsS Tryz.prog 20 [.slice a xs.length c, .func (.func f) fs.toArray cs.toArray] A (fun v L' => v = .bool (xs.any p) ∧ L' = A) := by
  refine CallsS.of_body Tryz.func20 rfl rfl rfl ?_
  repeat (first | (refine GQ.y ?_; refine Q.y ?_) | refine Q.go ?_ | (refine GQ.g ?_; refine Q.gq ?_) | (refine GQ.s ?_; refine Q.st ?_) | (refine GQ.g ?_; refine Q.gd ?_) | refine Q.ct rfl ?_ | refine Q.cf rfl ?_ | (refine GQ.a ?_; refine Q.al (fun b1 => ?_)))
  refine S.cr rfl (IdxV_spec f fs cs p a c xs A h hn hf) ?_
  rintro _ _ ⟨⟨i, rfl, hi⟩, rfl⟩
  repeat (first | (refine GQ.y ?_; refine Q.y ?_) | refine Q.go ?_ | (refine GQ.g ?_; refine Q.gq ?_) | (refine GQ.s ?_; refine Q.st ?_) | (refine GQ.g ?_; refine Q.gd ?_) | refine Q.ct rfl ?_ | refine Q.cf rfl ?_ | (refine GQ.a ?_; refine Q.al (fun b1 => ?_)))
  exact N.r1 (RV.tmp rfl RV.nil) (Ent.refl _) ⟨by rw [← hi], rfl⟩
theorem puts_step {p : VL} {v : Int × List Int} {q : VL} : putsE p (v :: q) = if putE p v.1 v.2 ≠ 0 then putE p v.1 v.2 else putsE (p ++ [v]) q := rfl
set_option maxHeartbeats 1000000 in
theorem ChNew_spec (M : Nat → Option Obj) (a : Option Addr) (c : Nat) (ovs : List OV) (A : List HP) (h : RdS A a ovs.length 2 (ovs.flatMap OV.cells) ∧ ∀ o ∈ ovs, RdS A o.a o.vec.length 1 (o.vec.map I32)) (hn : ovs.length ≤ 1000000) (hv : ∀ o ∈ ovs, o.vec.length ≤ 1000000) :
    CallsS Tryz.prog 19 [.slice a ovs.length c] (roM M :: A) (fun r L' => (putsE [] (ovs.map OV.abs) ≠ 0 → r = .tuple #[.pointer none, .int .i64 (putsE [] (ovs.map OV.abs))] ∧ ∃ M', leM M M' ∧ L' = roM M' :: A) ∧
      (putsE [] (ovs.map OV.abs) = 0 → ∃ p M', r = .tuple #[.pointer (some ⟨p, 0, none⟩), .int .i64 0] ∧ leM M M' ∧ L' = chainH M' p (ovs.map OV.abs) :: roM M' :: A)) := by
  refine CallsS.of_body Tryz.func19 rfl rfl rfl ?_
  repeat (first | (refine GQ.y ?_; refine Q.y ?_) | refine Q.go ?_ | (refine GQ.g ?_; refine Q.gq ?_) | (refine GQ.s ?_; refine Q.st ?_) | (refine GQ.g ?_; refine Q.gd ?_) | refine Q.ct rfl ?_ | refine Q.cf rfl ?_ | (refine GQ.a ?_; refine Q.al (fun b1 => ?_)))
  refine swp_loop (σ := Nat × (Nat → Option Obj)) (fun u => [(4, .pointer (some ⟨b1, 0, none⟩)), (10, .slice a ovs.length c), (11, .int .i64 ovs.length), (12, .int .i64 u.1)]) (fun u => chainH u.2 b1 ((ovs.take u.1).map OV.abs) :: roM u.2 :: A)
    (fun u => u.1 ≤ ovs.length ∧ leM M u.2 ∧ putsE [] (ovs.map OV.abs) = putsE ((ovs.take u.1).map OV.abs) ((ovs.drop u.1).map OV.abs)) (fun u => ovs.length - u.1) (0, M) ⟨rfl, rfl, rfl, rfl, trivial⟩ ?_ ⟨by omega, leM.refl M, rfl⟩ ?_
  · refine Ent.trans (Ent.cons (slO_nil (t := 45) (sz := 2))) ?_
    exact chain_shut (M := M) (p := b1) (a := none) (c := 0) (ovs := []) (L := roM M :: A) (by intro o ho; cases ho)
  rintro ⟨k, M1⟩ ⟨hk, hl1, hE⟩
  dsimp only at hk hl1 hE ⊢
  by_cases hlt : k < ovs.length
  · obtain ⟨o, ho⟩ := mem_get hlt
    have hmo : o ∈ ovs := List.mem_of_getElem? ho
    rw [drop_at' ho, List.map_cons, puts_step] at hE
    have hrs : RdS (chainH M1 b1 ((ovs.take k).map OV.abs) :: roM M1 :: A) a ovs.length 2 (ovs.flatMap OV.cells) := h.1.sub
    obtain ⟨b, oo, hia, hr⟩ := RdS.elem (g := OV.cells) (fun _ => rfl) hrs ho rfl
    clear hrs
    rw [hia]
    repeat (first | (refine GQ.y ?_; refine Q.y ?_) | refine Q.go ?_ | (refine GQ.g ?_; refine Q.gq ?_) | (refine GQ.s ?_; refine Q.st ?_) | (refine GQ.g ?_; refine Q.gd ?_) | refine Q.ct rfl ?_ | refine Q.cf rfl ?_ | (refine GQ.a ?_; refine Q.al (fun b1 => ?_)))
    rename_i bp
    refine opsS_ent (L' := chainH M1 bp ((ovs.take k).map OV.abs) :: roM M1 :: pt b1 (cl o.cells 45) :: A) (by repeat (first | exact Ent.refl _ | exact Ent.nil | refine Ent.pick ?_ | refine Ent.nilS ?_ | refine Ent.nilM ?_ | refine Ent.drop ?_)) ?_
    refine S.cr rfl (Put_spec M1 bp ((ovs.take k).map OV.abs) o _ (h.2 o hmo).sub (hv o hmo) (by rw [List.length_map, List.length_take]; omega)) ?_
    rintro _ _ ⟨rfl, h1, h2⟩
    by_cases hp : putE ((ovs.take k).map OV.abs) o.id o.vec = 0
    · obtain ⟨M2, hl2, rfl⟩ := h2 hp
      rw [if_neg (by rw [hp]; simp)] at hE
      rw [hp]
      repeat (first | (refine GQ.y ?_; refine Q.y ?_) | refine Q.go ?_ | (refine GQ.g ?_; refine Q.gq ?_) | (refine GQ.s ?_; refine Q.st ?_) | (refine GQ.g ?_; refine Q.gd ?_) | refine Q.ct rfl ?_ | refine Q.cf rfl ?_ | (refine GQ.a ?_; refine Q.al (fun b1 => ?_)))
      refine ⟨(k + 1, M2), ⟨rfl, rfl, rfl, rfl, trivial⟩, ?_, ⟨by dsimp only; omega, hl1.trans hl2, by dsimp only; rw [hE, take_snoc ho, List.map_append]; rfl⟩, by dsimp only; omega⟩
      dsimp only
      rw [take_snoc ho, List.map_append]
      show Ent _ (chainH M2 bp ((ovs.take k).map OV.abs ++ [o.abs]) :: _)
      repeat (first | exact Ent.refl _ | exact Ent.nil | refine Ent.pick ?_ | refine Ent.nilS ?_ | refine Ent.nilM ?_ | refine Ent.drop ?_)
    · obtain rfl := h1 hp
      rw [if_pos hp] at hE
      rw [hE]
      repeat (first | (refine GQ.y ?_; refine Q.y ?_) | refine Q.go ?_ | (refine GQ.g ?_; refine Q.gq ?_) | (refine GQ.s ?_; refine Q.st ?_) | (refine GQ.g ?_; refine Q.gd ?_) | refine Q.ct rfl ?_ | refine Q.cf rfl ?_ | (refine GQ.a ?_; refine Q.al (fun b1 => ?_)))
      refine N.r2 (RV.tmp rfl (RV.tmp rfl RV.nil)) ?_ ⟨fun _ => ⟨rfl, M1, hl1, rfl⟩, fun h0 => absurd h0 hp⟩
      repeat (first | exact Ent.refl _ | exact Ent.nil | refine Ent.pick ?_ | refine Ent.nilS ?_ | refine Ent.nilM ?_ | refine Ent.drop ?_)
  · have hke : k = ovs.length := by omega
    subst hke
    rw [List.take_length, List.drop_length] at hE
    have hE0 : putsE [] (ovs.map OV.abs) = 0 := hE
    rw [List.take_length]
    repeat (first | (refine GQ.y ?_; refine Q.y ?_) | refine Q.go ?_ | (refine GQ.g ?_; refine Q.gq ?_) | (refine GQ.s ?_; refine Q.st ?_) | (refine GQ.g ?_; refine Q.gd ?_) | refine Q.ct rfl ?_ | refine Q.cf rfl ?_ | (refine GQ.a ?_; refine Q.al (fun b1 => ?_)))
    exact N.r2 (RV.tmp rfl (RV.tmp rfl RV.nil)) (Ent.refl _) ⟨fun h0 => absurd hE0 h0, fun _ => ⟨b1, M1, rfl, hl1, rfl⟩⟩
instance : Enters Tryz.prog 21 := en21
theorem Load1_spec (b v mc mi : Nat) (dim mark : Int) (o : OV) (A : List HP) : CallsS Tryz.prog 21 ([] ++ [o.val] ++ [.pointer (some ⟨b, 0, none⟩)]) (pt b (cl [ptrV v] 26) :: vP v mc mi dim mark :: A) (fun r L' => r = .bool (badD dim o.abs) ∧ L' = pt b (cl [ptrV v] 26) :: vP v mc mi dim mark :: A) := by
  unfold badD
  refine CallsS.of_body Tryz.func21 rfl rfl rfl ?_
  by_cases h0 : 0 < o.vec.length
  · repeat (first | (refine GQ.y ?_; refine Q.y ?_) | refine Q.go ?_ | (refine GQ.g ?_; refine Q.gq ?_) | (refine GQ.s ?_; refine Q.st ?_) | (refine GQ.g ?_; refine Q.gd ?_) | refine Q.ct rfl ?_ | refine Q.cf rfl ?_ | (refine GQ.a ?_; refine Q.al (fun b1 => ?_)))
    refine Q.dgo [true, true, true] [] [] [0, 1, 2, 3, 4, 5, 6, 7, 8, 9, 10, 11, 12, 13, 14] ?_
    repeat (first | refine D.endA ?_ | refine Q.dy rfl rfl rfl ?_ | refine Q.dp rfl rfl rfl ?_ | refine D.end_ ?_ | refine Q.endH ?_ | (refine D.e rfl rfl rfl ?_; (first | refine S.gskip1 rfl ?_ | refine S.gskip rfl ?_ | refine S.y (Y.gskipU rfl) ?_); refine opsS_nil ?_; refine N.tn ?_) | refine Q.dT rfl rfl rfl ?_ | refine Q.dF rfl rfl rfl ?_ | (refine D.e rfl rfl rfl ?_; (first | (refine GQ.a ?_; refine Q.al (fun b1 => ?_)) | (refine GQ.s ?_; refine Q.st ?_)); refine opsS_nil ?_; refine N.tn ?_))
    repeat (first | (refine GQ.y ?_; refine Q.y ?_) | refine Q.go ?_ | (refine GQ.g ?_; refine Q.gq ?_) | (refine GQ.s ?_; refine Q.st ?_) | (refine GQ.g ?_; refine Q.gd ?_) | refine Q.ct rfl ?_ | refine Q.cf rfl ?_ | (refine GQ.a ?_; refine Q.al (fun b1 => ?_)))
    exact N.r1 (RV.tmp rfl RV.nil) (by repeat (first | exact Ent.refl _ | exact Ent.nil | refine Ent.pick ?_ | refine Ent.nilS ?_ | refine Ent.nilM ?_ | refine Ent.drop ?_)) ⟨by simp [h0], rfl⟩
  · repeat (first | (refine GQ.y ?_; refine Q.y ?_) | refine Q.go ?_ | (refine GQ.g ?_; refine Q.gq ?_) | (refine GQ.s ?_; refine Q.st ?_) | (refine GQ.g ?_; refine Q.gd ?_) | refine Q.ct rfl ?_ | refine Q.cf rfl ?_ | (refine GQ.a ?_; refine Q.al (fun b1 => ?_)))
    refine Q.dgo [true, true, true] [] [] [0, 1, 2, 3, 4, 5, 6, 7, 8, 9, 10, 11, 12, 13, 14] ?_
    repeat (first | refine D.endA ?_ | refine Q.dy rfl rfl rfl ?_ | refine Q.dp rfl rfl rfl ?_ | refine D.end_ ?_ | refine Q.endH ?_ | (refine D.e rfl rfl rfl ?_; (first | refine S.gskip1 rfl ?_ | refine S.gskip rfl ?_ | refine S.y (Y.gskipU rfl) ?_); refine opsS_nil ?_; refine N.tn ?_) | refine Q.dT rfl rfl rfl ?_ | refine Q.dF rfl rfl rfl ?_ | (refine D.e rfl rfl rfl ?_; (first | (refine GQ.a ?_; refine Q.al (fun b1 => ?_)) | (refine GQ.s ?_; refine Q.st ?_)); refine opsS_nil ?_; refine N.tn ?_))
    repeat (first | (refine GQ.y ?_; refine Q.y ?_) | refine Q.go ?_ | (refine GQ.g ?_; refine Q.gq ?_) | (refine GQ.s ?_; refine Q.st ?_) | (refine GQ.g ?_; refine Q.gd ?_) | refine Q.ct rfl ?_ | refine Q.cf rfl ?_ | (refine GQ.a ?_; refine Q.al (fun b1 => ?_)))
    exact N.r1 (RV.tmp rfl RV.nil) (by repeat (first | exact Ent.refl _ | exact Ent.nil | refine Ent.pick ?_ | refine Ent.nilS ?_ | refine Ent.nilM ?_ | refine Ent.drop ?_)) ⟨by simp [h0], rfl⟩
theorem VOK.mono {M M' : Nat → Option Obj} {st : VS} {cs : List CR} {is : List IV} (h : VOK M st cs is) (hl : leM M M') : VOK M' st cs is := ⟨h.ch, h.its, fun i hi => (h.ok i hi).mono hl, h.k1, h.k2⟩
theorem vault_shutM {v mc mi : Nat} {M M' : Nat → Option Obj} {st : VS} {cs : List CR} {is : List IV} {L : List HP} (h : VOK M st cs is) (hl : leM M M') : Ent (chsH M cs :: roM M' :: vP v mc mi st.dim st.mark :: vC mc cs :: vI mi is :: L) (vaultH v st :: L) := by
  refine Ent.trans (chs_mono hl) (Ent.trans ?_ (vault_shut (mc := mc) (mi := mi) (h.mono hl)))
  repeat (first | exact Ent.refl _ | exact Ent.nil | refine Ent.pick ?_ | refine Ent.nilS ?_ | refine Ent.nilM ?_ | refine Ent.drop ?_)
set_option maxHeartbeats 4000000 in
theorem Load_spec (v : Nat) (st : VS) (mark : Int) (a : Option Addr) (c : Nat) (es : List EV) (M : Nat → Option Obj) (L : List HP) (h : SlM M a es.length 2 (es.flatMap EV.cells) ∧ ∀ e ∈ es, okE M e) (hn : es.length ≤ 1000) (hv : ∀ e ∈ es, e.vs.length ≤ 1000 ∧ ∀ o ∈ e.vs, o.vec.length ≤ 1000) (hw : WFK st 10000) :
    CallsS Tryz.prog 7 [ptrV v, .int .u64 mark, .slice a es.length c] (vaultH v st :: roM M :: L) (fun r L' => r = .int .i64 (loadE st mark (es.map EV.abs)) ∧ L' = vaultH v (loadS st mark (es.map EV.abs)) :: roM M :: L) := by
  refine CallsS.of_body Tryz.func7 rfl rfl rfl ?_
  repeat (first | (refine GQ.y ?_; refine Q.y ?_) | refine Q.go ?_ | (refine GQ.g ?_; refine Q.gq ?_) | (refine GQ.s ?_; refine Q.st ?_) | (refine GQ.g ?_; refine Q.gd ?_) | refine Q.ct rfl ?_ | refine Q.cf rfl ?_ | (refine GQ.a ?_; refine Q.al (fun b1 => ?_)))
  by_cases hm : 1099511627776 < mark
  · have hE : loadE st mark (es.map EV.abs) = 1 := by unfold loadE; rw [if_pos hm]
    have hS : loadS st mark (es.map EV.abs) = st := by unfold loadS; rw [if_neg (by rw [hE]; simp)]
    rw [hE, hS]
    repeat (first | (refine GQ.y ?_; refine Q.y ?_) | refine Q.go ?_ | (refine GQ.g ?_; refine Q.gq ?_) | (refine GQ.s ?_; refine Q.st ?_) | (refine GQ.g ?_; refine Q.gd ?_) | refine Q.ct rfl ?_ | refine Q.cf rfl ?_ | (refine GQ.a ?_; refine Q.al (fun b1 => ?_)))
    exact N.r1 (RV.tmp rfl RV.nil) (by repeat (first | exact Ent.refl _ | exact Ent.nil | refine Ent.pick ?_ | refine Ent.nilS ?_ | refine Ent.nilM ?_ | refine Ent.drop ?_)) ⟨rfl, rfl⟩
  have hE1 : loadE st mark (es.map EV.abs) = if (ldF st.dim [] (es.map EV.abs)).isNone then 4 else if 0 < st.ch.length ∨ 0 < st.its.length ∨ 0 < st.mark then 10 else 0 := by unfold loadE; rw [if_neg hm]
  have hbadE : ldF st.dim [] (es.map EV.abs) = none → loadE st mark (es.map EV.abs) = 4 ∧ loadS st mark (es.map EV.abs) = st := fun hb => by
    have e : loadE st mark (es.map EV.abs) = 4 := by rw [hE1, hb]; rfl
    exact ⟨e, by unfold loadS; rw [if_neg (by rw [e]; simp)]⟩
  refine swp_vault v (fun mc mi Mv cs is hok => ?_)
  repeat (first | (refine GQ.y ?_; refine Q.y ?_) | refine Q.go ?_ | (refine GQ.g ?_; refine Q.gq ?_) | (refine GQ.s ?_; refine Q.st ?_) | (refine GQ.g ?_; refine Q.gd ?_) | refine Q.ct rfl ?_ | refine Q.cf rfl ?_ | (refine GQ.a ?_; refine Q.al (fun b1 => ?_)))
  refine S.mkm U64 ptrV (fun bm => ?_)
  repeat (first | (refine GQ.y ?_; refine Q.y ?_) | refine Q.go ?_ | (refine GQ.g ?_; refine Q.gq ?_) | (refine GQ.s ?_; refine Q.st ?_) | (refine GQ.g ?_; refine Q.gd ?_) | refine Q.ct rfl ?_ | refine Q.cf rfl ?_ | (refine GQ.a ?_; refine Q.al (fun b1 => ?_)))
  generalize b1 = b3
  refine swp_cutB (σ := List CR × (Nat → Option Obj)) (fun u => [(1, .int .u64 mark), (3, .pointer (some ⟨b3, 0, none⟩)), (7, .map (some bm))]) (fun u => mpO U64 ptrV bm (u.1.map fun c => (c.1, c.2.1)) :: chsH u.2 u.1 :: roM u.2 :: chsH Mv cs :: pt b3 (cl [ptrV v] 26) :: vP v mc mi st.dim st.mark :: vC mc cs :: vI mi is :: roM M :: L)
    (fun u => u.1.map (fun c => (c.1, c.2.2)) = es.map EV.abs ∧ ldF st.dim [] (es.map EV.abs) = some (es.map EV.abs) ∧ leM Mv u.2) ?_ ?_
  · refine swp_loop (σ := Nat × List CR × (Nat → Option Obj)) (fun u => [(1, .int .u64 mark), (3, .pointer (some ⟨b3, 0, none⟩)), (7, .map (some bm)), (20, .slice a es.length c), (21, .int .i64 es.length), (22, .int .i64 u.1)])
      (fun u => mpO U64 ptrV bm (u.2.1.map fun c => (c.1, c.2.1)) :: chsH u.2.2 u.2.1 :: roM u.2.2 :: chsH Mv cs :: pt b3 (cl [ptrV v] 26) :: vP v mc mi st.dim st.mark :: vC mc cs :: vI mi is :: roM M :: L)
      (fun u => u.1 ≤ es.length ∧ u.2.1.map (fun c => (c.1, c.2.2)) = (es.take u.1).map EV.abs ∧ keysOK ((es.take u.1).map EV.abs) ∧ ldF st.dim [] (es.map EV.abs) = ldF st.dim ((es.take u.1).map EV.abs) ((es.drop u.1).map EV.abs) ∧ leM Mv u.2.2) (fun u => es.length - u.1) (0, [], Mv) ⟨rfl, rfl, rfl, rfl, rfl, rfl, trivial⟩ ?_ ⟨by omega, rfl, by simp [keysOK], rfl, leM.refl Mv⟩ ?_
    · refine Ent.cons ?_
      refine Ent.trans ?_ (Ent.shut_all (L := []))
      repeat (first | exact Ent.refl _ | exact Ent.nil | refine Ent.pick ?_ | refine Ent.nilS ?_ | refine Ent.nilM ?_ | refine Ent.drop ?_)
    rintro ⟨k, cs2, M2⟩ ⟨hk, hcs, hkk, hld, hl2⟩
    dsimp only at hk hcs hkk hld hl2 ⊢
    by_cases hlt : k < es.length
    · obtain ⟨e, he⟩ := mem_get hlt
      have hme : e ∈ es := List.mem_of_getElem? he
      have hve := hv e hme
      have hoe := h.2 e hme
      rw [drop_at' he, List.map_cons] at hld
      have hstep : ldF st.dim ((es.take k).map EV.abs) (e.abs :: (es.drop (k + 1)).map EV.abs) = if badE st.dim ((es.take k).map EV.abs) e.abs then none else ldF st.dim ((es.take k).map EV.abs ++ [e.abs]) ((es.drop (k + 1)).map EV.abs) := rfl
      rw [hstep] at hld
      clear hstep
      have hbad : badE st.dim ((es.take k).map EV.abs) e.abs = true → loadE st mark (es.map EV.abs) = 4 ∧ loadS st mark (es.map EV.abs) = st := fun hb => hbadE (by rw [hld, hb]; rfl)
      have hkc : keysOK (cs2.map fun c => (c.1, c.2.2)) := by rw [hcs]; exact hkk
      have hrs : RdS (mpO U64 ptrV bm (cs2.map fun c => (c.1, c.2.1)) :: chsH M2 cs2 :: roM M2 :: chsH Mv cs :: pt b3 (cl [ptrV v] 26) :: vP v mc mi st.dim st.mark :: vC mc cs :: vI mi is :: roM M :: L) a es.length 2 (es.flatMap EV.cells) := h.1.rd
      obtain ⟨b, oo, hia, hr⟩ := RdS.elem (g := EV.cells) (fun _ => rfl) hrs he rfl
      clear hrs
      rw [hia]
      repeat (first | (refine GQ.y ?_; refine Q.y ?_) | refine Q.go ?_ | (refine GQ.g ?_; refine Q.gq ?_) | (refine GQ.s ?_; refine Q.st ?_) | (refine GQ.g ?_; refine Q.gd ?_) | refine Q.ct rfl ?_ | refine Q.cf rfl ?_ | (refine GQ.a ?_; refine Q.al (fun b1 => ?_)))
      refine opsS_ent (L' := roM M2 :: pt b1 (cl e.cells 40) :: mpO U64 ptrV bm (cs2.map fun c => (c.1, c.2.1)) :: chsH M2 cs2 :: chsH Mv cs :: pt b3 (cl [ptrV v] 26) :: vP v mc mi st.dim st.mark :: vC mc cs :: vI mi is :: roM M :: L) (by repeat (first | exact Ent.refl _ | exact Ent.nil | refine Ent.pick ?_ | refine Ent.nilS ?_ | refine Ent.nilM ?_ | refine Ent.drop ?_)) ?_
      refine S.cr rfl (ChNew_spec M2 e.a e.c e.vs _ ⟨hoe.1.rd, fun o ho => (hoe.2 o ho).rd⟩ (by omega) (fun o ho => by have := hve.2 o ho; omega)) ?_
      rintro _ _ ⟨hq1, hq2⟩
      have fin : ∀ M3, leM Mv M3 → Ent (chsH Mv cs :: roM M3 :: vP v mc mi st.dim st.mark :: vC mc cs :: vI mi is :: roM M :: L) (vaultH v st :: roM M :: L) := fun M3 hl => vault_shutM hok hl
      by_cases hp : putsE [] (e.vs.map OV.abs) = 0
      · obtain ⟨pc, M3, rfl, hl3, rfl⟩ := hq2 hp
        clear hq1 hq2
        repeat (first | (refine GQ.y ?_; refine Q.y ?_) | refine Q.go ?_ | (refine GQ.g ?_; refine Q.gq ?_) | (refine GQ.s ?_; refine Q.st ?_) | (refine GQ.g ?_; refine Q.gd ?_) | refine Q.ct rfl ?_ | refine Q.cf rfl ?_ | (refine GQ.a ?_; refine Q.al (fun b1 => ?_)))
        refine S.y (Y.mf rfl rfl) ?_
        refine opsS_ent (L' := pt b3 (cl [ptrV v] 26) :: vP v mc mi st.dim st.mark :: chainH M3 pc (e.vs.map OV.abs) :: roM M3 :: pt b1 (cl e.cells 40) :: mpO U64 ptrV bm (cs2.map fun c => (c.1, c.2.1)) :: chsH M2 cs2 :: chsH Mv cs :: vC mc cs :: vI mi is :: roM M :: L) (by repeat (first | exact Ent.refl _ | exact Ent.nil | refine Ent.pick ?_ | refine Ent.nilS ?_ | refine Ent.nilM ?_ | refine Ent.drop ?_)) ?_
        refine S.cr rfl (HasV_spec 21 [] [.pointer (some ⟨b3, 0, none⟩)] (fun o => badD st.dim o.abs) e.a e.c e.vs _ hoe.1.rd (by omega) (fun o ho => Load1_spec b3 v mc mi st.dim st.mark o _)) ?_
        rintro _ _ ⟨rfl, rfl⟩
        obtain ⟨anyb, hany⟩ : ∃ q, q = e.vs.any fun o => badD st.dim o.abs := ⟨_, rfl⟩
        rw [← hany]
        have hany2 : e.abs.2.any (badD st.dim) = anyb := by rw [hany]; show (e.vs.map OV.abs).any _ = _; rw [List.any_map]; rfl
        have hl3' := hl2.trans hl3
        by_cases hA : 1099511627776 < e.id
        · obtain ⟨e1, e2⟩ := hbad (by unfold badE; simp [hA])
          rw [e1, e2]
          repeat (first | (refine GQ.y ?_; refine Q.y ?_) | refine Q.go ?_ | (refine GQ.g ?_; refine Q.gq ?_) | (refine GQ.s ?_; refine Q.st ?_) | (refine GQ.g ?_; refine Q.gd ?_) | refine Q.ct rfl ?_ | refine Q.cf rfl ?_ | (refine GQ.a ?_; refine Q.al (fun b1 => ?_)))
          exact N.r1 (RV.tmp rfl RV.nil) (Ent.trans (by repeat (first | exact Ent.refl _ | exact Ent.nil | refine Ent.pick ?_ | refine Ent.nilS ?_ | refine Ent.nilM ?_ | refine Ent.drop ?_)) (fin M3 hl3')) ⟨rfl, rfl⟩
        repeat (first | (refine GQ.y ?_; refine Q.y ?_) | refine Q.go ?_ | (refine GQ.g ?_; refine Q.gq ?_) | (refine GQ.s ?_; refine Q.st ?_) | (refine GQ.g ?_; refine Q.gd ?_) | refine Q.ct rfl ?_ | refine Q.cf rfl ?_ | (refine GQ.a ?_; refine Q.al (fun b1 => ?_)))
        refine S.y (Y.lk false rfl rfl (fun w => Tryz.zeroValue72 w)) ?_
        rcases cr_case cs2 hkc e.id with ⟨p', q', b2, vs', f0, f1, f2, f3, f4⟩ | ⟨f1, f2, f3⟩
        · obtain ⟨e1, e2⟩ := hbad (by rw [hcs] at f2; unfold badE; rw [f2]; simp)
          rw [e1, e2, f1]
          dsimp only
          repeat (first | (refine GQ.y ?_; refine Q.y ?_) | refine Q.go ?_ | (refine GQ.g ?_; refine Q.gq ?_) | (refine GQ.s ?_; refine Q.st ?_) | (refine GQ.g ?_; refine Q.gd ?_) | refine Q.ct rfl ?_ | refine Q.cf rfl ?_ | (refine GQ.a ?_; refine Q.al (fun b1 => ?_)))
          exact N.r1 (RV.tmp rfl RV.nil) (Ent.trans (by repeat (first | exact Ent.refl _ | exact Ent.nil | refine Ent.pick ?_ | refine Ent.nilS ?_ | refine Ent.nilM ?_ | refine Ent.drop ?_)) (fin M3 hl3')) ⟨rfl, rfl⟩
        rw [f1]
        dsimp only
        by_cases hC : e.vs.length = 0
        · obtain ⟨e1, e2⟩ := hbad (by unfold badE; simp [hC])
          rw [e1, e2]
          repeat (first | (refine GQ.y ?_; refine Q.y ?_) | refine Q.go ?_ | (refine GQ.g ?_; refine Q.gq ?_) | (refine GQ.s ?_; refine Q.st ?_) | (refine GQ.g ?_; refine Q.gd ?_) | refine Q.ct rfl ?_ | refine Q.cf rfl ?_ | (refine GQ.a ?_; refine Q.al (fun b1 => ?_)))
          exact N.r1 (RV.tmp rfl RV.nil) (Ent.trans (by repeat (first | exact Ent.refl _ | exact Ent.nil | refine Ent.pick ?_ | refine Ent.nilS ?_ | refine Ent.nilM ?_ | refine Ent.drop ?_)) (fin M3 hl3')) ⟨rfl, rfl⟩
        cases anyb with
        | true =>
          obtain ⟨e1, e2⟩ := hbad (by unfold badE; rw [hany2]; simp)
          rw [e1, e2]
          repeat (first | (refine GQ.y ?_; refine Q.y ?_) | refine Q.go ?_ | (refine GQ.g ?_; refine Q.gq ?_) | (refine GQ.s ?_; refine Q.st ?_) | (refine GQ.g ?_; refine Q.gd ?_) | refine Q.ct rfl ?_ | refine Q.cf rfl ?_ | (refine GQ.a ?_; refine Q.al (fun b1 => ?_)))
          exact N.r1 (RV.tmp rfl RV.nil) (Ent.trans (by repeat (first | exact Ent.refl _ | exact Ent.nil | refine Ent.pick ?_ | refine Ent.nilS ?_ | refine Ent.nilM ?_ | refine Ent.drop ?_)) (fin M3 hl3')) ⟨rfl, rfl⟩
        | false =>
          have hgb : badE st.dim ((es.take k).map EV.abs) e.abs = false := by
            rw [hcs] at f2
            unfold badE
            rw [hany2, f2]
            simp [hp, hC, hA]
          rw [hgb] at hld
          repeat (first | (refine GQ.y ?_; refine Q.y ?_) | refine Q.go ?_ | (refine GQ.g ?_; refine Q.gq ?_) | (refine GQ.s ?_; refine Q.st ?_) | (refine GQ.g ?_; refine Q.gd ?_) | refine Q.ct rfl ?_ | refine Q.cf rfl ?_ | (refine GQ.a ?_; refine Q.al (fun b1 => ?_)))
          refine S.mu (u := pc) rfl rfl rfl ?_
          repeat (first | (refine GQ.y ?_; refine Q.y ?_) | refine Q.go ?_ | (refine GQ.g ?_; refine Q.gq ?_) | (refine GQ.s ?_; refine Q.st ?_) | (refine GQ.g ?_; refine Q.gd ?_) | refine Q.ct rfl ?_ | refine Q.cf rfl ?_ | (refine GQ.a ?_; refine Q.al (fun b1 => ?_)))
          have hpm : putL (cs2.map fun c => (c.1, c.2.1)) e.id pc = (cs2 ++ [(e.id, pc, e.vs.map OV.abs)]).map fun c => (c.1, c.2.1) := by
            rw [putL_none (fun u hu => by obtain ⟨w, hw2, rfl⟩ := List.mem_map.1 hu; exact f3 w hw2), List.map_append]; rfl
          refine ⟨(k + 1, cs2 ++ [(e.id, pc, e.vs.map OV.abs)], M3), ⟨rfl, rfl, rfl, rfl, rfl, rfl, trivial⟩, ?_, ⟨by dsimp only; omega, by dsimp only; rw [List.map_append, hcs, take_snoc he, List.map_append]; rfl, ?_, ?_, hl3'⟩, by dsimp only; omega⟩
          · dsimp only
            rw [← hpm]
            refine Ent.trans (?_ : Ent _ (chsH M2 cs2 :: chainH M3 pc (e.vs.map OV.abs) :: mpO U64 ptrV bm (putL (cs2.map fun c => (c.1, c.2.1)) e.id pc) :: roM M3 :: chsH Mv cs :: pt b3 (cl [ptrV v] 26) :: vP v mc mi st.dim st.mark :: vC mc cs :: vI mi is :: roM M :: L)) ?_
            · repeat (first | exact Ent.refl _ | exact Ent.nil | refine Ent.pick ?_ | refine Ent.nilS ?_ | refine Ent.nilM ?_ | refine Ent.drop ?_)
            refine Ent.trans (chs_mono hl3) ?_
            refine Ent.trans (Ent.perm (.swap _ _ _)) ?_
            have hin := chs_in (M := M3) (p := cs2) (q := []) (x := (e.id, pc, e.vs.map OV.abs)) (L := mpO U64 ptrV bm (putL (cs2.map fun c => (c.1, c.2.1)) e.id pc) :: roM M3 :: chsH Mv cs :: pt b3 (cl [ptrV v] 26) :: vP v mc mi st.dim st.mark :: vC mc cs :: vI mi is :: roM M :: L)
            rw [List.append_nil] at hin
            refine Ent.trans hin ?_
            repeat (first | exact Ent.refl _ | exact Ent.nil | refine Ent.pick ?_ | refine Ent.nilS ?_ | refine Ent.nilM ?_ | refine Ent.drop ?_)
          · dsimp only
            rw [take_snoc he, List.map_append]
            rw [hcs] at f2
            exact keys_snoc hkk _ f2
          · dsimp only
            rw [hld, take_snoc he, List.map_append]
            simp
      · obtain ⟨rfl, M3, hl3, rfl⟩ := hq1 hp
        clear hq1 hq2
        obtain ⟨pe, hpe⟩ : ∃ q, q = putsE [] (e.vs.map OV.abs) := ⟨_, rfl⟩
        rw [← hpe] at hp ⊢
        repeat (first | (refine GQ.y ?_; refine Q.y ?_) | refine Q.go ?_ | (refine GQ.g ?_; refine Q.gq ?_) | (refine GQ.s ?_; refine Q.st ?_) | (refine GQ.g ?_; refine Q.gd ?_) | refine Q.ct rfl ?_ | refine Q.cf rfl ?_ | (refine GQ.a ?_; refine Q.al (fun b1 => ?_)))
        refine S.y (Y.mf rfl rfl) ?_
        refine opsS_ent (L' := pt b3 (cl [ptrV v] 26) :: vP v mc mi st.dim st.mark :: roM M3 :: pt b1 (cl e.cells 40) :: mpO U64 ptrV bm (cs2.map fun c => (c.1, c.2.1)) :: chsH M2 cs2 :: chsH Mv cs :: vC mc cs :: vI mi is :: roM M :: L) (by repeat (first | exact Ent.refl _ | exact Ent.nil | refine Ent.pick ?_ | refine Ent.nilS ?_ | refine Ent.nilM ?_ | refine Ent.drop ?_)) ?_
        refine S.cr rfl (HasV_spec 21 [] [.pointer (some ⟨b3, 0, none⟩)] (fun o => badD st.dim o.abs) e.a e.c e.vs _ hoe.1.rd (by omega) (fun o ho => Load1_spec b3 v mc mi st.dim st.mark o _)) ?_
        rintro _ _ ⟨rfl, rfl⟩
        obtain ⟨anyb, hany⟩ : ∃ q, q = e.vs.any fun o => badD st.dim o.abs := ⟨_, rfl⟩
        rw [← hany]
        have hany2 : e.abs.2.any (badD st.dim) = anyb := by rw [hany]; show (e.vs.map OV.abs).any _ = _; rw [List.any_map]; rfl
        have hl3' := hl2.trans hl3
        by_cases hA : 1099511627776 < e.id
        · obtain ⟨e1, e2⟩ := hbad (by unfold badE; simp [hA])
          rw [e1, e2]
          repeat (first | (refine GQ.y ?_; refine Q.y ?_) | refine Q.go ?_ | (refine GQ.g ?_; refine Q.gq ?_) | (refine GQ.s ?_; refine Q.st ?_) | (refine GQ.g ?_; refine Q.gd ?_) | refine Q.ct rfl ?_ | refine Q.cf rfl ?_ | (refine GQ.a ?_; refine Q.al (fun b1 => ?_)))
          exact N.r1 (RV.tmp rfl RV.nil) (Ent.trans (by repeat (first | exact Ent.refl _ | exact Ent.nil | refine Ent.pick ?_ | refine Ent.nilS ?_ | refine Ent.nilM ?_ | refine Ent.drop ?_)) (fin M3 hl3')) ⟨rfl, rfl⟩
        repeat (first | (refine GQ.y ?_; refine Q.y ?_) | refine Q.go ?_ | (refine GQ.g ?_; refine Q.gq ?_) | (refine GQ.s ?_; refine Q.st ?_) | (refine GQ.g ?_; refine Q.gd ?_) | refine Q.ct rfl ?_ | refine Q.cf rfl ?_ | (refine GQ.a ?_; refine Q.al (fun b1 => ?_)))
        refine S.y (Y.lk false rfl rfl (fun w => Tryz.zeroValue72 w)) ?_
        rcases cr_case cs2 hkc e.id with ⟨p', q', b2, vs', f0, f1, f2, f3, f4⟩ | ⟨f1, f2, f3⟩
        · obtain ⟨e1, e2⟩ := hbad (by rw [hcs] at f2; unfold badE; rw [f2]; simp)
          rw [e1, e2, f1]
          dsimp only
          repeat (first | (refine GQ.y ?_; refine Q.y ?_) | refine Q.go ?_ | (refine GQ.g ?_; refine Q.gq ?_) | (refine GQ.s ?_; refine Q.st ?_) | (refine GQ.g ?_; refine Q.gd ?_) | refine Q.ct rfl ?_ | refine Q.cf rfl ?_ | (refine GQ.a ?_; refine Q.al (fun b1 => ?_)))
          exact N.r1 (RV.tmp rfl RV.nil) (Ent.trans (by repeat (first | exact Ent.refl _ | exact Ent.nil | refine Ent.pick ?_ | refine Ent.nilS ?_ | refine Ent.nilM ?_ | refine Ent.drop ?_)) (fin M3 hl3')) ⟨rfl, rfl⟩
        rw [f1]
        dsimp only
        by_cases hC : e.vs.length = 0
        · obtain ⟨e1, e2⟩ := hbad (by unfold badE; simp [hC])
          rw [e1, e2]
          repeat (first | (refine GQ.y ?_; refine Q.y ?_) | refine Q.go ?_ | (refine GQ.g ?_; refine Q.gq ?_) | (refine GQ.s ?_; refine Q.st ?_) | (refine GQ.g ?_; refine Q.gd ?_) | refine Q.ct rfl ?_ | refine Q.cf rfl ?_ | (refine GQ.a ?_; refine Q.al (fun b1 => ?_)))
          exact N.r1 (RV.tmp rfl RV.nil) (Ent.trans (by repeat (first | exact Ent.refl _ | exact Ent.nil | refine Ent.pick ?_ | refine Ent.nilS ?_ | refine Ent.nilM ?_ | refine Ent.drop ?_)) (fin M3 hl3')) ⟨rfl, rfl⟩
        obtain ⟨e1, e2⟩ := hbad (by unfold badE; rw [show putsE [] e.abs.2 = pe from hpe.symm]; simp [hp])
        rw [e1, e2]
        repeat (first | (refine GQ.y ?_; refine Q.y ?_) | refine Q.go ?_ | (refine GQ.g ?_; refine Q.gq ?_) | (refine GQ.s ?_; refine Q.st ?_) | (refine GQ.g ?_; refine Q.gd ?_) | refine Q.ct rfl ?_ | refine Q.cf rfl ?_ | (refine GQ.a ?_; refine Q.al (fun b1 => ?_)))
        exact N.r1 (RV.tmp rfl RV.nil) (Ent.trans (by repeat (first | exact Ent.refl _ | exact Ent.nil | refine Ent.pick ?_ | refine Ent.nilS ?_ | refine Ent.nilM ?_ | refine Ent.drop ?_)) (fin M3 hl3')) ⟨rfl, rfl⟩
    · have hke : k = es.length := by omega
      subst hke
      rw [List.take_length] at hcs hkk hld
      rw [List.drop_length] at hld
      repeat (first | (refine GQ.y ?_; refine Q.y ?_) | refine Q.go ?_ | (refine GQ.g ?_; refine Q.gq ?_) | (refine GQ.s ?_; refine Q.st ?_) | (refine GQ.g ?_; refine Q.gd ?_) | refine Q.ct rfl ?_ | refine Q.cf rfl ?_ | (refine GQ.a ?_; refine Q.al (fun b1 => ?_)))
      exact ⟨(cs2, M2), ⟨rfl, rfl, rfl, trivial⟩, by repeat (first | exact Ent.refl _ | exact Ent.nil | refine Ent.pick ?_ | refine Ent.nilS ?_ | refine Ent.nilM ?_ | refine Ent.drop ?_), hcs, hld, hl2⟩
  rintro ⟨cs2, M2⟩ ⟨hcs, hld, hl2⟩
  dsimp only at hcs hld hl2 ⊢
  rw [hld] at hE1
  simp only [Option.isNone_some, Bool.false_eq_true, if_false] at hE1
  have hcl : cs.length = st.ch.length := by rw [← hok.ch]; simp
  have hil : is.length = st.its.length := by rw [← hok.its]; simp
  have hcm : (cs.map fun c => (c.1, c.2.1)).length = st.ch.length := by rw [List.length_map, hcl]
  have him : (is.map fun i => (i.txn, i)).length = st.its.length := by rw [List.length_map, hil]
  have fin : Ent (chsH Mv cs :: roM M2 :: vP v mc mi st.dim st.mark :: vC mc cs :: vI mi is :: roM M :: L) (vaultH v st :: roM M :: L) := vault_shutM hok hl2
  have hS : loadE st mark (es.map EV.abs) ≠ 0 → loadS st mark (es.map EV.abs) = st := fun h0 => by unfold loadS; rw [if_neg h0]
  by_cases k1 : 0 < st.ch.length
  · have e1 : loadE st mark (es.map EV.abs) = 10 := by rw [hE1, if_pos (.inl k1)]
    rw [hS (by rw [e1]; simp), e1]
    repeat (first | (refine GQ.y ?_; refine Q.y ?_) | refine Q.go ?_ | (refine GQ.g ?_; refine Q.gq ?_) | (refine GQ.s ?_; refine Q.st ?_) | (refine GQ.g ?_; refine Q.gd ?_) | refine Q.ct rfl ?_ | refine Q.cf rfl ?_ | (refine GQ.a ?_; refine Q.al (fun b1 => ?_)))
    exact N.r1 (RV.tmp rfl RV.nil) (Ent.trans (by repeat (first | exact Ent.refl _ | exact Ent.nil | refine Ent.pick ?_ | refine Ent.nilS ?_ | refine Ent.nilM ?_ | refine Ent.drop ?_)) fin) ⟨rfl, rfl⟩
  by_cases k2 : 0 < st.its.length
  · have e1 : loadE st mark (es.map EV.abs) = 10 := by rw [hE1, if_pos (.inr (.inl k2))]
    rw [hS (by rw [e1]; simp), e1]
    repeat (first | (refine GQ.y ?_; refine Q.y ?_) | refine Q.go ?_ | (refine GQ.g ?_; refine Q.gq ?_) | (refine GQ.s ?_; refine Q.st ?_) | (refine GQ.g ?_; refine Q.gd ?_) | refine Q.ct rfl ?_ | refine Q.cf rfl ?_ | (refine GQ.a ?_; refine Q.al (fun b1 => ?_)))
    exact N.r1 (RV.tmp rfl RV.nil) (Ent.trans (by repeat (first | exact Ent.refl _ | exact Ent.nil | refine Ent.pick ?_ | refine Ent.nilS ?_ | refine Ent.nilM ?_ | refine Ent.drop ?_)) fin) ⟨rfl, rfl⟩
  by_cases k3 : 0 < st.mark
  · have e1 : loadE st mark (es.map EV.abs) = 10 := by rw [hE1, if_pos (.inr (.inr k3))]
    rw [hS (by rw [e1]; simp), e1]
    repeat (first | (refine GQ.y ?_; refine Q.y ?_) | refine Q.go ?_ | (refine GQ.g ?_; refine Q.gq ?_) | (refine GQ.s ?_; refine Q.st ?_) | (refine GQ.g ?_; refine Q.gd ?_) | refine Q.ct rfl ?_ | refine Q.cf rfl ?_ | (refine GQ.a ?_; refine Q.al (fun b1 => ?_)))
    exact N.r1 (RV.tmp rfl RV.nil) (Ent.trans (by repeat (first | exact Ent.refl _ | exact Ent.nil | refine Ent.pick ?_ | refine Ent.nilS ?_ | refine Ent.nilM ?_ | refine Ent.drop ?_)) fin) ⟨rfl, rfl⟩
  have e1 : loadE st mark (es.map EV.abs) = 0 := by rw [hE1, if_neg (by omega)]
  have e2 : loadS st mark (es.map EV.abs) = { st with ch := es.map EV.abs, mark := mark } := by unfold loadS; rw [if_pos e1]
  rw [e1, e2]
  repeat (first | (refine GQ.y ?_; refine Q.y ?_) | refine Q.go ?_ | (refine GQ.g ?_; refine Q.gq ?_) | (refine GQ.s ?_; refine Q.st ?_) | (refine GQ.g ?_; refine Q.gd ?_) | refine Q.ct rfl ?_ | refine Q.cf rfl ?_ | (refine GQ.a ?_; refine Q.al (fun b1 => ?_)))
  refine swp_ent (L' := pt b3 (cl [ptrV v] 26) :: vP v mc mi st.dim st.mark :: mpO U64 ptrV bm (cs2.map fun c => (c.1, c.2.1)) :: chsH M2 cs2 :: roM M2 :: vI mi is :: roM M :: L) (by repeat (first | exact Ent.refl _ | exact Ent.nil | refine Ent.pick ?_ | refine Ent.nilS ?_ | refine Ent.nilM ?_ | refine Ent.drop ?_)) ?_
  refine Q.dgo [true, false, false, false, false, false, false] [6, 9] [] [0, 1, 2, 3, 4, 5, 6, 7, 8, 9] ?_
  repeat (first | refine D.endA ?_ | refine Q.dy rfl rfl rfl ?_ | refine Q.dp rfl rfl rfl ?_ | refine D.end_ ?_ | refine Q.endH ?_ | (refine D.e rfl rfl rfl ?_; (first | refine S.gskip1 rfl ?_ | refine S.gskip rfl ?_ | refine S.y (Y.gskipU rfl) ?_); refine opsS_nil ?_; refine N.tn ?_) | refine Q.dT rfl rfl rfl ?_ | refine Q.dF rfl rfl rfl ?_ | (refine D.e rfl rfl rfl ?_; (first | (refine GQ.a ?_; refine Q.al (fun b1 => ?_)) | (refine GQ.s ?_; refine Q.st ?_)); refine opsS_nil ?_; refine N.tn ?_))
  repeat (first | (refine GQ.y ?_; refine Q.y ?_) | refine Q.go ?_ | (refine GQ.g ?_; refine Q.gq ?_) | (refine GQ.s ?_; refine Q.st ?_) | (refine GQ.g ?_; refine Q.gd ?_) | refine Q.ct rfl ?_ | refine Q.cf rfl ?_ | (refine GQ.a ?_; refine Q.al (fun b1 => ?_)))
  have hok2 : VOK M2 { st with ch := es.map EV.abs, mark := mark } cs2 is := ⟨hcs, hok.its, fun i hi => (hok.ok i hi).mono hl2, (load_ok e1).1, hok.k2⟩
  refine N.r1 (RV.tmp rfl RV.nil) (Ent.trans ?_ (vault_shut (mc := bm) (mi := mi) hok2)) ⟨rfl, rfl⟩
  repeat (first | exact Ent.refl _ | exact Ent.nil | refine Ent.pick ?_ | refine Ent.nilS ?_ | refine Ent.nilM ?_ | refine Ent.drop ?_)
end Go.Proofs.YtieejgbjgcbbjaaGreat
