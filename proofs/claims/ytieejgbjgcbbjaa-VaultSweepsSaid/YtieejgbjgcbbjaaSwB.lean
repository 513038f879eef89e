/- VaultSweeps: what is swept away nobody asks for, as a law of states. No condition. -/
import Derived.Test.YtieejgbjgcbbjaaStB
import Derived.Test.YtieejgbjgcbbjaaAskD
set_option linter.unusedVariables false
set_option linter.unusedSimpArgs false
namespace Go.Proofs.Ytieejgbjgcbbjaa
open Go Go.SX
theorem flatMap_filter {α β : Type} {f : α → List β} {p : α → Bool} : ∀ {l : List α}, (∀ x ∈ l, p x = false → f x = []) → (l.filter p).flatMap f = l.flatMap f
  | [], _ => rfl
  | x :: l, h => by
    have ih := flatMap_filter (f := f) (p := p) (l := l) fun y hy => h y (List.mem_cons_of_mem _ hy)
    cases hp : p x with
    | true => rw [List.filter_cons_of_pos (by rw [hp]), List.flatMap_cons, List.flatMap_cons, ih]
    | false => rw [List.filter_cons_of_neg (by rw [hp]; simp), List.flatMap_cons, ih, h x (by simp) hp, List.nil_append]
theorem mem_swIds {ch : List (Int × VL)} (h : keysOK ch) (x : Int) : x ∈ swIds ch ↔ lkL ch x ≠ none := by
  constructor
  · intro hx
    obtain ⟨vs, hv⟩ := swIds_mem hx
    rw [(lkL_iff h).2 hv]; simp
  · intro hx
    cases hz : lkL ch x with
    | none => exact absurd hz hx
    | some vs => exact (sortL_perm _).mem_iff.2 (List.mem_map_of_mem (f := (·.1)) (lk_memL hz))
theorem scan_sweep {m s : Int} {ch : List (Int × VL)} (h : keysOK ch) (hs : ∀ c ∈ ch, sortedV c.2) (hm : m ≤ s) : (swIds (swF m (swIds ch) ch).1).flatMap (hitV (swF m (swIds ch) ch).1 s) = (swIds ch).flatMap (hitV ch s) := by
  have hk : keysOK (swF m (swIds ch) ch).1 := swF_ok (u := (ch, [])) h
  have hh : hitV (swF m (swIds ch) ch).1 s = hitV ch s := by
    funext id
    unfold hitV
    rw [ch_sweep h, at_cut _ hm]
    unfold chV
    cases hz : lkL ch id with
    | none => exact List.Pairwise.nil
    | some vs => exact hs _ (lk_memL hz)
  rw [hh]
  have hsub : ∀ x, x ∈ swIds (swF m (swIds ch) ch).1 → x ∈ swIds ch := fun x hx => by
    by_cases hi : x ∈ swIds ch
    · exact hi
    · have h1 := (mem_swIds hk x).1 hx
      have h2 : lkL (swF m (swIds ch) ch).1 x = lkL ch x := swF_lk (u := (ch, [])) h hi
      rw [h2] at h1
      exact (mem_swIds h x).2 h1
  have hf : swIds (swF m (swIds ch) ch).1 = (swIds ch).filter fun x => decide (x ∈ swIds (swF m (swIds ch) ch).1) := by
    refine sorted_uniq ((List.perm_ext_iff_of_nodup (swIds_nodup hk) ((swIds_nodup h).filter _)).2 fun x => ?_) (sortL_sorted _) ((sortL_sorted _).filter _)
    rw [List.mem_filter, decide_eq_true_eq]
    exact ⟨fun hx => ⟨hsub x hx, hx⟩, fun hx => hx.2⟩
  rw [hf]
  refine flatMap_filter fun x hx hp => ?_
  have hn : x ∉ swIds (swF m (swIds ch) ch).1 := by simpa using hp
  have h1 : lkL (swF m (swIds ch) ch).1 x = none := by
    cases hz : lkL (swF m (swIds ch) ch).1 x with
    | none => rfl
    | some vs => exact absurd ((mem_swIds hk x).2 (by rw [hz]; simp)) hn
  rw [← hh]
  unfold hitV chV
  rw [h1]
  simp [atV, aftN]
theorem doS_mark {st : VS} {o : DV} (h : o.d.tmod 9 ≠ 8) : (doS st o).mark = st.mark := by
  unfold doS
  split
  · rfl
  split
  · unfold applyS
    split
    · rfl
    · split <;> rfl
  unfold lockS
  split <;> rfl
/-- Behind a sweep of a vault that nobody holds and nobody swept. -/
theorem sweep_scan {st : VS} {n : Nat} (hw : WFK st n) (hi : st.its = []) (h0 : st.mark = 0) {m s : Int} (hm0 : 0 ≤ m) (hm : m < 40) (hs : 0 ≤ s) :
    (sweepS st m).mark = m ∧ (s < m → openE (sweepS st m) s [] = 12) ∧ (m ≤ s → openE (sweepS st m) s [] = 0 ∧ scanV (sweepS st m) s = scanV st s) := by
  have hmin : min m 1099511627776 = m := by omega
  unfold sweepS
  rw [hmin, h0]
  by_cases hz : m ≤ 0
  · have : m = 0 := by omega
    subst this
    rw [if_pos (by omega)]
    refine ⟨h0, fun h => by omega, fun _ => ⟨?_, rfl⟩⟩
    unfold openE blockedV
    rw [hi, h0, List.any_nil, if_neg (by simp), if_neg (by omega)]
  · rw [if_neg hz]
    refine ⟨rfl, fun h => ?_, fun h => ?_⟩
    · unfold openE blockedV
      rw [hi, List.any_nil, if_neg (by simp), if_pos h]
    · have e1 : openE { st with mark := m, ch := (swF m (swIds st.ch) st.ch).1 } s [] = 0 := by
        unfold openE blockedV
        rw [hi, List.any_nil, if_neg (by simp), if_neg (by dsimp only; omega)]
      refine ⟨e1, ?_⟩
      have e2 : openE st s [] = 0 := by
        unfold openE blockedV
        rw [hi, h0, List.any_nil, if_neg (by simp), if_neg (by omega)]
      unfold scanV
      rw [e1, e2, if_neg (by simp), if_neg (by simp)]
      exact scan_sweep hw.k1 (fun c hc => (hw.wf.co c hc).1) h
end Go.Proofs.Ytieejgbjgcbbjaa
/- VaultSweeps: the law, walked. No condition. -/
set_option linter.unusedVariables false
set_option linter.unusedSimpArgs false
namespace Go.Proofs.Ytieejgbjgcbbjaa
open Go Go.SX
attribute [local irreducible] swp opsS thenS blockS retS CallsS St Ent YieldS anyS drawS
theorem flat_len3 : ∀ (l : List OV), (l.flatMap cH).length = l.length * 3
  | [] => rfl
  | o :: l => by rw [List.flatMap_cons, List.length_append, flat_len3 l, List.length_cons]; simp; omega
theorem at_len {st : VS} {n : Nat} (hw : WF st n) (id s : Int) : (atV (chV st.ch id) s).length ≤ 8 := by
  unfold atV
  split
  · simp
  cases hz : (chV st.ch id)[aftN (chV st.ch id) s - 1]? with
  | none => simp
  | some v =>
    have hm := List.mem_of_getElem? hz
    unfold chV at hm
    cases hy : lkL st.ch id with
    | none => rw [hy] at hm; cases hm
    | some vs =>
      rw [hy] at hm
      exact (hw.co _ (lk_memL hy)).2.2 v hm
theorem scan_vec {st : VS} {n : Nat} (hw : WF st n) (s : Int) (x : Int × List Int) (hx : x ∈ scanV st s) : x.2.length ≤ 8 := by
  unfold scanV at hx
  split at hx
  · cases hx
  obtain ⟨id, hid, hm⟩ := List.mem_flatMap.1 hx
  unfold hitV at hm
  split at hm
  · obtain rfl := List.mem_singleton.1 hm
    exact at_len hw id s
  · cases hm
set_option maxHeartbeats 4000000 in
theorem VaultSweeps_spec (a : Option Addr) (c : Nat) (xs : List DV) (mk : Int) (ai : Option Addr) (ci : Nat) (ids : List Int) (M : Nat → Option Obj)
    (h : SlM M a xs.length 8 (xs.flatMap DV.cells)) (hx : ∀ o ∈ xs, (SlM M o.a o.ops.length 2 (o.ops.flatMap OV.cells) ∧ okR M o.ops) ∧ (∀ u ∈ o.ops, u.vec.length ≤ u.c) ∧ o.ops.length ≤ 9223372036854775807 ∧ 0 ≤ o.stamp) (hn : xs.length ≤ 9223372036854775807)
    (hi : SlM M ai ids.length 1 (ids.map U64)) (hin : ids.length * 8 ≤ 140737488351232) (hi0 : ∀ x ∈ ids, 0 ≤ x) (hmk : 0 ≤ mk) :
    CallsS Try.prog 6 [.slice a xs.length c, .int .u64 mk, .slice ai ids.length ci] [roM M] (fun v _ => v = .bool true) := by
  refine CallsS.of_body Try.func6 rfl rfl rfl ?_
  repeat (first | (refine GQ.y ?_; refine Q.y ?_) | refine Q.go ?_ | (refine GQ.g ?_; refine Q.gq ?_) | (refine GQ.s ?_; refine Q.st ?_) | (refine GQ.g ?_; refine Q.gd ?_) | refine Q.ct rfl ?_ | refine Q.cf rfl ?_ | (refine GQ.a ?_; refine Q.al (fun b1 => ?_)))
  refine S.cr rfl (awake_spec _) ?_
  rintro _ _ ⟨rfl, rfl⟩
  repeat (first | (refine GQ.y ?_; refine Q.y ?_) | refine Q.go ?_ | (refine GQ.g ?_; refine Q.gq ?_) | (refine GQ.s ?_; refine Q.st ?_) | (refine GQ.g ?_; refine Q.gd ?_) | refine Q.ct rfl ?_ | refine Q.cf rfl ?_ | (refine GQ.a ?_; refine Q.al (fun b1 => ?_)))
  refine S.cr rfl (New_spec 2 _ (by decide) (by decide)) ?_
  rintro _ _ ⟨v, rfl, rfl⟩
  repeat (first | (refine GQ.y ?_; refine Q.y ?_) | refine Q.go ?_ | (refine GQ.g ?_; refine Q.gq ?_) | (refine GQ.s ?_; refine Q.st ?_) | (refine GQ.g ?_; refine Q.gd ?_) | refine Q.ct rfl ?_ | refine Q.cf rfl ?_ | (refine GQ.a ?_; refine Q.al (fun b1 => ?_)))
  refine swp_cutB (σ := VS × (Nat → Option Obj)) (fun u => [(1, .int .u64 mk), (2, .slice ai ids.length ci), (7, ptrV v), (9, ptrV b1)]) (fun u => vaultH v u.1 :: refH b1 u.1 :: roM u.2 :: []) (fun u => WFK u.1 30 ∧ u.1.mark = 0 ∧ leM M u.2) ?_ ?_
  · refine swp_loop (σ := Nat × VS × (Nat → Option Obj)) (fun u => [(1, .int .u64 mk), (2, .slice ai ids.length ci), (7, ptrV v), (9, ptrV b1), (28, .slice a xs.length c), (29, .int .i64 xs.length), (30, .int .i64 u.1)]) (fun u => vaultH v u.2.1 :: refH b1 u.2.1 :: roM u.2.2 :: [])
      (fun u => u.1 ≤ xs.length ∧ WFK u.2.1 (min u.1 30) ∧ u.2.1.mark = 0 ∧ leM M u.2.2) (fun u => xs.length - u.1) (0, ⟨2, [], [], 0⟩, M) ⟨rfl, rfl, rfl, rfl, rfl, rfl, rfl, trivial⟩ ?_ ⟨by omega, ⟨WF0 2 (by decide) (by decide) _, by simp [keysOK], by simp [keysOK]⟩, rfl, leM.refl M⟩ ?_
    · dsimp only
      refine Ent.trans (Ent.perm (.swap _ _ _)) (Ent.cons ?_)
      refine Ent.trans (Ent.cons (Ent.nilM (Ent.refl _))) ?_
      exact ref_shut (p := b1) (st := ⟨2, [], [], 0⟩) (es := []) (is := []) (a := none) (a' := none) (c := 0) (c' := 0) ⟨by simp, by simp, by simp, by simp, by simp, by simp, ⟨rfl, .inl rfl⟩, ⟨rfl, .inl rfl⟩, by simp, by simp, by simp [keysOK], by simp [keysOK], by simp⟩
    rintro ⟨k, st, M1⟩ ⟨hk, hwf, hm0, hl1⟩
    dsimp only at hk hwf hm0 hl1 ⊢
    by_cases hlt : k < xs.length
    · obtain ⟨o, ho⟩ := mem_get hlt
      obtain ⟨x1, x2, x3, x4⟩ := hx o (List.mem_of_getElem? ho)
      have hrs : RdS (vaultH v st :: refH b1 st :: roM M1 :: []) a xs.length 8 (xs.flatMap DV.cells) := (SlM.mono h hl1).rd
      obtain ⟨b, oo, hia, hr⟩ := RdS.elem (g := DV.cells) (fun _ => rfl) hrs ho rfl
      rw [hia]
      by_cases h30 : (k : Int) < 30
      · repeat (first | (refine GQ.y ?_; refine Q.y ?_) | refine Q.go ?_ | (refine GQ.g ?_; refine Q.gq ?_) | (refine GQ.s ?_; refine Q.st ?_) | (refine GQ.g ?_; refine Q.gd ?_) | refine Q.ct rfl ?_ | refine Q.cf rfl ?_ | (refine GQ.a ?_; refine Q.al (fun b1 => ?_)))
        refine S.y (Y.rem rfl rfl (by decide)) ?_
        by_cases h8 : o.d.tmod 9 = 8
        · rw [h8]
          repeat (first | (refine GQ.y ?_; refine Q.y ?_) | refine Q.go ?_ | (refine GQ.g ?_; refine Q.gq ?_) | (refine GQ.s ?_; refine Q.st ?_) | (refine GQ.g ?_; refine Q.gd ?_) | refine Q.ct rfl ?_ | refine Q.cf rfl ?_ | (refine GQ.a ?_; refine Q.al (fun b1 => ?_)))
          refine ⟨(k + 1, st, M1), ⟨rfl, rfl, rfl, rfl, rfl, rfl, rfl, trivial⟩, by repeat (first | exact Ent.refl _ | exact Ent.nil | refine Ent.pick ?_ | refine Ent.nilS ?_ | refine Ent.nilM ?_ | refine Ent.drop ?_), ⟨by dsimp only; omega, hwf.mono (by dsimp only; omega), hm0, hl1⟩, by dsimp only; omega⟩
        · have hdm := doS_mark (st := st) h8
          have hwf2 := hwf.do_ o
          generalize hd : o.d.tmod 9 = dd at h8 ⊢
          repeat (first | (refine GQ.y ?_; refine Q.y ?_) | refine Q.go ?_ | (refine GQ.g ?_; refine Q.gq ?_) | (refine GQ.s ?_; refine Q.st ?_) | (refine GQ.g ?_; refine Q.gd ?_) | refine Q.ct rfl ?_ | refine Q.cf rfl ?_ | (refine GQ.a ?_; refine Q.al (fun b1 => ?_)))
          rename_i bp
          refine opsS_ent (L' := vaultH v st :: refH bp st :: roM M1 :: [pt b1 (cl o.cells 39)]) (by repeat (first | exact Ent.refl _ | exact Ent.nil | refine Ent.pick ?_ | refine Ent.nilS ?_ | refine Ent.nilM ?_ | refine Ent.drop ?_)) ?_
          refine S.cr rfl (Do_spec v bp st _ o M1 _ hwf.wf (by omega) ⟨x1.1.mono hl1, fun u hu => (x1.2 u hu).mono hl1⟩ x2 x3 x4) ?_
          rintro _ _ ⟨rfl, M2, hl2, rfl⟩
          generalize doS st o = st2 at hwf2 hdm ⊢
          repeat (first | (refine GQ.y ?_; refine Q.y ?_) | refine Q.go ?_ | (refine GQ.g ?_; refine Q.gq ?_) | (refine GQ.s ?_; refine Q.st ?_) | (refine GQ.g ?_; refine Q.gd ?_) | refine Q.ct rfl ?_ | refine Q.cf rfl ?_ | (refine GQ.a ?_; refine Q.al (fun b1 => ?_)))
          refine ⟨(k + 1, st2, M2), ⟨rfl, rfl, rfl, rfl, rfl, rfl, rfl, trivial⟩, by repeat (first | exact Ent.refl _ | exact Ent.nil | refine Ent.pick ?_ | refine Ent.nilS ?_ | refine Ent.nilM ?_ | refine Ent.drop ?_), ⟨by dsimp only; omega, hwf2.mono (by dsimp only; omega), by dsimp only; omega, hl1.trans hl2⟩, by dsimp only; omega⟩
      · repeat (first | (refine GQ.y ?_; refine Q.y ?_) | refine Q.go ?_ | (refine GQ.g ?_; refine Q.gq ?_) | (refine GQ.s ?_; refine Q.st ?_) | (refine GQ.g ?_; refine Q.gd ?_) | refine Q.ct rfl ?_ | refine Q.cf rfl ?_ | (refine GQ.a ?_; refine Q.al (fun b1 => ?_)))
        refine ⟨(k + 1, st, M1), ⟨rfl, rfl, rfl, rfl, rfl, rfl, rfl, trivial⟩, by repeat (first | exact Ent.refl _ | exact Ent.nil | refine Ent.pick ?_ | refine Ent.nilS ?_ | refine Ent.nilM ?_ | refine Ent.drop ?_), ⟨by dsimp only; omega, hwf.mono (by dsimp only; omega), hm0, hl1⟩, by dsimp only; omega⟩
    · have hke : k = xs.length := by omega
      subst hke
      repeat (first | (refine GQ.y ?_; refine Q.y ?_) | refine Q.go ?_ | (refine GQ.g ?_; refine Q.gq ?_) | (refine GQ.s ?_; refine Q.st ?_) | (refine GQ.g ?_; refine Q.gd ?_) | refine Q.ct rfl ?_ | refine Q.cf rfl ?_ | (refine GQ.a ?_; refine Q.al (fun b1 => ?_)))
      exact ⟨(st, M1), ⟨rfl, rfl, rfl, rfl, trivial⟩, Ent.refl _, hwf.mono (by omega), hm0, hl1⟩
  rintro ⟨st, M1⟩ ⟨hwf, hm0, hl1⟩
  dsimp only at hwf hm0 hl1 ⊢
  clear h hx hn a c xs
  repeat (first | (refine GQ.y ?_; refine Q.y ?_) | refine Q.go ?_ | (refine GQ.g ?_; refine Q.gq ?_) | (refine GQ.s ?_; refine Q.st ?_) | (refine GQ.g ?_; refine Q.gd ?_) | refine Q.ct rfl ?_ | refine Q.cf rfl ?_ | (refine GQ.a ?_; refine Q.al (fun b1 => ?_)))
  refine S.cv v rfl (IntentsO_spec v st 30 _ hwf.wf (by omega)) ?_
  rintro _ _ ⟨a3, c3, es, rfl, hep, -, rfl⟩
  have hel : es.length ≤ 30 := by
    have h1 := hep.length_eq
    rw [List.length_map] at h1
    have := hwf.wf.il; omega
  refine opsS_addr a3 (fun ha3 => ?_)
  repeat (first | (refine GQ.y ?_; refine Q.y ?_) | refine Q.go ?_ | (refine GQ.g ?_; refine Q.gq ?_) | (refine GQ.s ?_; refine Q.st ?_) | (refine GQ.g ?_; refine Q.gd ?_) | refine Q.ct rfl ?_ | refine Q.cf rfl ?_ | (refine GQ.a ?_; refine Q.al (fun b1 => ?_)))
  refine swp_cutB (σ := Unit) (fun _ => [(1, .int .u64 mk), (2, .slice ai ids.length ci), (7, ptrV v), (9, ptrV b1)]) (fun _ => vaultH v { st with its := [] } :: refH b1 { st with its := [] } :: roM M1 :: []) (fun _ => True) ?_ ?_
  · refine swp_loop (σ := Nat × List (Int × Int × VL)) (fun u => [(1, .int .u64 mk), (2, .slice ai ids.length ci), (7, ptrV v), (9, ptrV b1), (52, .slice a3 es.length c3), (53, .int .i64 es.length), (54, .int .i64 u.1)])
      (fun u => slO 44 3 a3 es.length c3 (es.flatMap IV.cells) :: vaultH v { st with its := u.2 } :: refH b1 { st with its := u.2 } :: roM M1 :: [])
      (fun u => u.1 ≤ es.length ∧ WFK { st with its := u.2 } 30 ∧ ∀ w ∈ u.2, w ∈ st.its ∧ ∀ e ∈ es.take u.1, w.1 ≠ e.txn) (fun u => es.length - u.1) (0, st.its) ⟨rfl, rfl, rfl, rfl, rfl, rfl, rfl, trivial⟩ (by repeat (first | exact Ent.refl _ | exact Ent.nil | refine Ent.pick ?_ | refine Ent.nilS ?_ | refine Ent.nilM ?_ | refine Ent.drop ?_)) ⟨by omega, hwf, fun w hw => ⟨hw, fun e he => by cases he⟩⟩ ?_
    rintro ⟨k, l⟩ ⟨hk, hwl, hall⟩
    dsimp only at hk hwl hall ⊢
    by_cases hlt : k < es.length
    · obtain ⟨e, he⟩ := mem_get hlt
      rcases ha3 with ha3 | ⟨b3, rfl⟩
      · omega
      have hr : RdC (slO 44 3 (some ⟨b3, 0, none⟩) es.length c3 (es.flatMap IV.cells) :: vaultH v { st with its := l } :: refH b1 { st with its := l } :: roM M1 :: []) b3 (0 + k * 3) (IV.cells e) := RdC.elem (g := IV.cells) (fun _ => rfl) RdC.ofS he
      repeat (first | (refine GQ.y ?_; refine Q.y ?_) | refine Q.go ?_ | (refine GQ.g ?_; refine Q.gq ?_) | (refine GQ.s ?_; refine Q.st ?_) | (refine GQ.g ?_; refine Q.gd ?_) | refine Q.ct rfl ?_ | refine Q.cf rfl ?_ | (refine GQ.a ?_; refine Q.al (fun b1 => ?_)))
      rename_i bp
      refine S.cv v rfl (Free_spec v _ e.txn _) ?_
      rintro _ _ ⟨rfl, rfl⟩
      repeat (first | (refine GQ.y ?_; refine Q.y ?_) | refine Q.go ?_ | (refine GQ.g ?_; refine Q.gq ?_) | (refine GQ.s ?_; refine Q.st ?_) | (refine GQ.g ?_; refine Q.gd ?_) | refine Q.ct rfl ?_ | refine Q.cf rfl ?_ | (refine GQ.a ?_; refine Q.al (fun b1 => ?_)))
      refine S.cf bp rfl (RFree_spec bp _ e.txn _ (by have := hwl.wf.il; dsimp only at this ⊢; omega)) ?_
      rintro _ _ ⟨rfl, rfl⟩
      dsimp only
      repeat (first | (refine GQ.y ?_; refine Q.y ?_) | refine Q.go ?_ | (refine GQ.g ?_; refine Q.gq ?_) | (refine GQ.s ?_; refine Q.st ?_) | (refine GQ.g ?_; refine Q.gd ?_) | refine Q.ct rfl ?_ | refine Q.cf rfl ?_ | (refine GQ.a ?_; refine Q.al (fun b1 => ?_)))
      refine ⟨(k + 1, delL l e.txn), ⟨rfl, rfl, rfl, rfl, rfl, rfl, rfl, trivial⟩, by repeat (first | exact Ent.refl _ | exact Ent.nil | refine Ent.pick ?_ | refine Ent.nilS ?_ | refine Ent.nilM ?_ | refine Ent.drop ?_), ⟨by dsimp only; omega, hwl.free e.txn, fun w hw => ?_⟩, by dsimp only; omega⟩
      have hw2 := List.mem_filter.1 hw
      refine ⟨(hall w hw2.1).1, fun f hf => ?_⟩
      dsimp only at hf
      rw [take_snoc he] at hf
      rcases List.mem_append.1 hf with hf | hf
      · exact (hall w hw2.1).2 f hf
      · obtain rfl := List.mem_singleton.1 hf
        simpa using hw2.2
    · have hke : k = es.length := by omega
      subst hke
      rw [List.take_length] at hall
      have hl0 : l = [] := by
        cases l with
        | nil => rfl
        | cons w l =>
          exfalso
          obtain ⟨h1, h2⟩ := hall w (by simp)
          obtain ⟨e, he, hew⟩ := List.mem_map.1 (hep.mem_iff.2 h1)
          exact h2 e he (by rw [← hew])
      subst hl0
      repeat (first | (refine GQ.y ?_; refine Q.y ?_) | refine Q.go ?_ | (refine GQ.g ?_; refine Q.gq ?_) | (refine GQ.s ?_; refine Q.st ?_) | (refine GQ.g ?_; refine Q.gd ?_) | refine Q.ct rfl ?_ | refine Q.cf rfl ?_ | (refine GQ.a ?_; refine Q.al (fun b1 => ?_)))
      exact ⟨(), ⟨rfl, rfl, rfl, rfl, trivial⟩, by repeat (first | exact Ent.refl _ | exact Ent.nil | refine Ent.pick ?_ | refine Ent.nilS ?_ | refine Ent.nilM ?_ | refine Ent.drop ?_), trivial⟩
  rintro ⟨⟩ -
  have hwf0 : WFK { st with its := [] } 30 := ⟨⟨hwf.wf.d1, hwf.wf.d2, Nat.zero_le _, by simp, hwf.wf.cl, hwf.wf.co⟩, hwf.k1, by simp [keysOK]⟩
  clear hep hel ha3 es a3 c3
  obtain ⟨st0, hst0⟩ : ∃ st0, st0 = { st with its := [] } := ⟨_, rfl⟩
  rw [← hst0] at hwf0 ⊢
  have hit : st0.its = [] := by rw [hst0]
  have hm0' : st0.mark = 0 := by rw [hst0]; exact hm0
  clear hst0 hwf hm0 st
  repeat (first | (refine GQ.y ?_; refine Q.y ?_) | refine Q.go ?_ | (refine GQ.g ?_; refine Q.gq ?_) | (refine GQ.s ?_; refine Q.st ?_) | (refine GQ.g ?_; refine Q.gd ?_) | refine Q.ct rfl ?_ | refine Q.cf rfl ?_ | (refine GQ.a ?_; refine Q.al (fun b1 => ?_)))
  refine S.y (Y.rem rfl rfl (by decide)) ?_
  have hm1 : 0 ≤ mk.tmod 40 := Int.tmod_nonneg _ hmk
  have hm2 : mk.tmod 40 < 40 := by have := Int.tmod_lt_of_pos mk (show (0 : Int) < 40 by decide); omega
  generalize mk.tmod 40 = m at hm1 hm2 ⊢
  repeat (first | (refine GQ.y ?_; refine Q.y ?_) | refine Q.go ?_ | (refine GQ.g ?_; refine Q.gq ?_) | (refine GQ.s ?_; refine Q.st ?_) | (refine GQ.g ?_; refine Q.gd ?_) | refine Q.ct rfl ?_ | refine Q.cf rfl ?_ | (refine GQ.a ?_; refine Q.al (fun b1 => ?_)))
  refine S.cv v rfl (Sweep_spec v st0 30 m _ hwf0.wf (by omega)) ?_
  rintro _ _ ⟨a4, c4, rfl, -, rfl⟩
  have hwf1 := hwf0.sweep m
  have hsw := fun s hs => sweep_scan hwf0 hit hm0' hm1 hm2 (s := s) hs
  generalize sweepS st0 m = st1 at hwf1 hsw ⊢
  repeat (first | (refine GQ.y ?_; refine Q.y ?_) | refine Q.go ?_ | (refine GQ.g ?_; refine Q.gq ?_) | (refine GQ.s ?_; refine Q.st ?_) | (refine GQ.g ?_; refine Q.gd ?_) | refine Q.ct rfl ?_ | refine Q.cf rfl ?_ | (refine GQ.a ?_; refine Q.al (fun b1 => ?_)))
  rename_i bp
  refine opsS_ent (slO_fold (sz := 1) (m := 1) rfl) ?_
  refine S.app rfl rfl (SrcS.rd (SlM.mono hi hl1).rd (U_one _)) (by rfl) (by omega) (by omega) (fun a6 c6 => ?_)
  obtain ⟨qs, hqs⟩ : ∃ qs, qs = m :: ids := ⟨_, rfl⟩
  have e1 : ([.int .u64 m] ++ ids.map U64 : List Value) = qs.map U64 := by rw [hqs]; rfl
  have e2 : 1 + ids.length = qs.length := by rw [hqs, List.length_cons]; omega
  have hq0 : ∀ x ∈ qs, 0 ≤ x := fun x hx => by
    rw [hqs] at hx
    rcases List.mem_cons.1 hx with rfl | hx
    · exact hm1
    · exact hi0 x hx
  have hql : qs.length ≤ 9223372036854775807 := by omega
  dsimp only
  rw [e1, e2]
  clear e1 e2 hqs hi hin hi0 hmk
  repeat (first | (refine GQ.y ?_; refine Q.y ?_) | refine Q.go ?_ | (refine GQ.g ?_; refine Q.gq ?_) | (refine GQ.s ?_; refine Q.st ?_) | (refine GQ.g ?_; refine Q.gd ?_) | refine Q.ct rfl ?_ | refine Q.cf rfl ?_ | (refine GQ.a ?_; refine Q.al (fun b1 => ?_)))
  refine swp_addr a6 (fun ha6 => ?_)
  refine swp_cutB (σ := Unit) (fun _ => [(1, .int .u64 m), (7, ptrV v)]) (fun _ => vaultH v st1 :: []) (fun _ => True) ?_ ?_
  · refine swp_loop (σ := Nat) (fun k => [(1, .int .u64 m), (7, ptrV v), (9, ptrV bp), (75, .slice a6 qs.length c6), (76, .int .i64 qs.length), (77, .int .i64 k)])
      (fun _ => slO 23 1 a6 qs.length c6 (qs.map U64) :: vaultH v st1 :: refH bp st0 :: roM M1 :: []) (fun k => k ≤ qs.length) (fun k => qs.length - k) 0 ⟨rfl, rfl, rfl, rfl, rfl, rfl, trivial⟩ (by repeat (first | exact Ent.refl _ | exact Ent.nil | refine Ent.pick ?_ | refine Ent.nilS ?_ | refine Ent.nilM ?_ | refine Ent.drop ?_)) (by omega) ?_
    intro k hk
    by_cases hlt : k < qs.length
    · by_cases h12 : (12 : Int) ≤ k
      · obtain ⟨x, hx⟩ := mem_get hlt
        rcases ha6 with ha6 | ⟨b6, rfl⟩
        · omega
        have hr : RdC (slO 23 1 (some ⟨b6, 0, none⟩) qs.length c6 (qs.map U64) :: vaultH v st1 :: refH bp st0 :: roM M1 :: []) b6 (0 + k * 1) (cU x) := RdC.elem (g := cU) (fun _ => rfl) (by rw [flat_U]; exact RdC.ofS) hx
        repeat (first | (refine GQ.y ?_; refine Q.y ?_) | refine Q.go ?_ | (refine GQ.g ?_; refine Q.gq ?_) | (refine GQ.s ?_; refine Q.st ?_) | (refine GQ.g ?_; refine Q.gd ?_) | refine Q.ct rfl ?_ | refine Q.cf rfl ?_ | (refine GQ.a ?_; refine Q.al (fun b1 => ?_)))
        exact ⟨(), ⟨rfl, rfl, trivial⟩, by repeat (first | exact Ent.refl _ | exact Ent.nil | refine Ent.pick ?_ | refine Ent.nilS ?_ | refine Ent.nilM ?_ | refine Ent.drop ?_), trivial⟩
      · obtain ⟨x, hx⟩ := mem_get hlt
        have hx0 := hq0 x (List.mem_of_getElem? hx)
        rcases ha6 with ha6 | ⟨b6, rfl⟩
        · omega
        have hr : RdC (slO 23 1 (some ⟨b6, 0, none⟩) qs.length c6 (qs.map U64) :: vaultH v st1 :: refH bp st0 :: roM M1 :: []) b6 (0 + k * 1) (cU x) := RdC.elem (g := cU) (fun _ => rfl) (by rw [flat_U]; exact RdC.ofS) hx
        repeat (first | (refine GQ.y ?_; refine Q.y ?_) | refine Q.go ?_ | (refine GQ.g ?_; refine Q.gq ?_) | (refine GQ.s ?_; refine Q.st ?_) | (refine GQ.g ?_; refine Q.gd ?_) | refine Q.ct rfl ?_ | refine Q.cf rfl ?_ | (refine GQ.a ?_; refine Q.al (fun b1 => ?_)))
        refine S.y (Y.rem rfl rfl (by decide)) ?_
        have hy0 : 0 ≤ x.tmod 60 := Int.tmod_nonneg _ hx0
        generalize x.tmod 60 = y at hy0 ⊢
        obtain ⟨hs1, hs2, hs3⟩ := hsw y hy0
        repeat (first | (refine GQ.y ?_; refine Q.y ?_) | refine Q.go ?_ | (refine GQ.g ?_; refine Q.gq ?_) | (refine GQ.s ?_; refine Q.st ?_) | (refine GQ.g ?_; refine Q.gd ?_) | refine Q.ct rfl ?_ | refine Q.cf rfl ?_ | (refine GQ.a ?_; refine Q.al (fun b1 => ?_)))
        refine S.cv v rfl (Scan_spec v st1 30 y _ hwf1.wf (by omega)) ?_
        rintro _ _ ⟨a5, c5, us, rfl, hus, hua, hul, rfl⟩
        refine opsS_addr a5 (fun ha5 => ?_)
        by_cases hym : y < m
        · rw [hs2 hym]
          repeat (first | (refine GQ.y ?_; refine Q.y ?_) | refine Q.go ?_ | (refine GQ.g ?_; refine Q.gq ?_) | (refine GQ.s ?_; refine Q.st ?_) | (refine GQ.g ?_; refine Q.gd ?_) | refine Q.ct rfl ?_ | refine Q.cf rfl ?_ | (refine GQ.a ?_; refine Q.al (fun b1 => ?_)))
          refine ⟨k + 1, ⟨rfl, rfl, rfl, rfl, rfl, rfl, trivial⟩, by repeat (first | exact Ent.refl _ | exact Ent.nil | refine Ent.pick ?_ | refine Ent.nilS ?_ | refine Ent.nilM ?_ | refine Ent.drop ?_), by omega, by omega⟩
        · obtain ⟨hE, hV⟩ := hs3 (by omega)
          rw [hE]
          rw [hV] at hus
          repeat (first | (refine GQ.y ?_; refine Q.y ?_) | refine Q.go ?_ | (refine GQ.g ?_; refine Q.gq ?_) | (refine GQ.s ?_; refine Q.st ?_) | (refine GQ.g ?_; refine Q.gd ?_) | refine Q.ct rfl ?_ | refine Q.cf rfl ?_ | (refine GQ.a ?_; refine Q.al (fun b1 => ?_)))
          refine opsS_ref bp (fun M' a c es a' c' is hok => ?_)
          refine S.cr rfl (RScan_spec bp st0 30 M' a es c a' is c' y _ hok hwf0.wf (by omega)) ?_
          rintro _ _ ⟨a7, c7, ws, rfl, hws, hwo, hwl, rfl⟩
          refine opsS_addr a7 (fun ha7 => ?_)
          have hvl : ∀ o ∈ us, o.vec.length ≤ 1000000 := fun o ho => by
            have := scan_vec hwf0.wf y o.abs (by rw [← hus]; exact List.mem_map_of_mem ho)
            dsimp only at this; omega
          repeat (first | (refine GQ.y ?_; refine Q.y ?_) | refine Q.go ?_ | (refine GQ.g ?_; refine Q.gq ?_) | (refine GQ.s ?_; refine Q.st ?_) | (refine GQ.g ?_; refine Q.gd ?_) | refine Q.ct rfl ?_ | refine Q.cf rfl ?_ | (refine GQ.a ?_; refine Q.al (fun b1 => ?_)))
          refine S.cr rfl (SameHits_spec a5 c5 us a7 c7 ws _ ⟨RdS.ofS (flat_len3 _) ha5, fun o ho => vecs_rd ho hua⟩ ⟨RdS.ofS (flat_len3 _) ha7, fun o ho => (hwo o ho).rd⟩ (by omega) hvl (hus.trans hws.symm)) ?_
          rintro _ _ ⟨rfl, rfl⟩
          repeat (first | (refine GQ.y ?_; refine Q.y ?_) | refine Q.go ?_ | (refine GQ.g ?_; refine Q.gq ?_) | (refine GQ.s ?_; refine Q.st ?_) | (refine GQ.g ?_; refine Q.gd ?_) | refine Q.ct rfl ?_ | refine Q.cf rfl ?_ | (refine GQ.a ?_; refine Q.al (fun b1 => ?_)))
          refine ⟨k + 1, ⟨rfl, rfl, rfl, rfl, rfl, rfl, trivial⟩, ?_, by omega, by omega⟩
          refine Ent.trans (?_ : Ent _ (rP bp st0.dim a es c a' is c' st0.mark :: roM M' :: slO 23 1 (some ⟨b6, 0, none⟩) qs.length c6 (qs.map U64) :: vaultH v st1 :: roM M1 :: [])) ?_
          · repeat (first | exact Ent.refl _ | exact Ent.nil | refine Ent.pick ?_ | refine Ent.nilS ?_ | refine Ent.nilM ?_ | refine Ent.drop ?_)
          refine Ent.trans (ref_shut hok) ?_
          repeat (first | exact Ent.refl _ | exact Ent.nil | refine Ent.pick ?_ | refine Ent.nilS ?_ | refine Ent.nilM ?_ | refine Ent.drop ?_)
    · have hke : k = qs.length := by omega
      subst hke
      repeat (first | (refine GQ.y ?_; refine Q.y ?_) | refine Q.go ?_ | (refine GQ.g ?_; refine Q.gq ?_) | (refine GQ.s ?_; refine Q.st ?_) | (refine GQ.g ?_; refine Q.gd ?_) | refine Q.ct rfl ?_ | refine Q.cf rfl ?_ | (refine GQ.a ?_; refine Q.al (fun b1 => ?_)))
      exact ⟨(), ⟨rfl, rfl, trivial⟩, by repeat (first | exact Ent.refl _ | exact Ent.nil | refine Ent.pick ?_ | refine Ent.nilS ?_ | refine Ent.nilM ?_ | refine Ent.drop ?_), trivial⟩
  rintro ⟨⟩ -
  have hmm := (hsw 0 (by omega)).1
  repeat (first | (refine GQ.y ?_; refine Q.y ?_) | refine Q.go ?_ | (refine GQ.g ?_; refine Q.gq ?_) | (refine GQ.s ?_; refine Q.st ?_) | (refine GQ.g ?_; refine Q.gd ?_) | refine Q.ct rfl ?_ | refine Q.cf rfl ?_ | (refine GQ.a ?_; refine Q.al (fun b1 => ?_)))
  refine S.cv v rfl (Mark_spec v st1 _) ?_
  rintro _ _ ⟨rfl, rfl⟩
  rw [hmm]
  repeat (first | (refine GQ.y ?_; refine Q.y ?_) | refine Q.go ?_ | (refine GQ.g ?_; refine Q.gq ?_) | (refine GQ.s ?_; refine Q.st ?_) | (refine GQ.g ?_; refine Q.gd ?_) | refine Q.ct rfl ?_ | refine Q.cf rfl ?_ | (refine GQ.a ?_; refine Q.al (fun b1 => ?_)))
  exact N.r1 (RV.tmp rfl RV.nil) (Ent.refl _) (by simp)
end Go.Proofs.Ytieejgbjgcbbjaa
