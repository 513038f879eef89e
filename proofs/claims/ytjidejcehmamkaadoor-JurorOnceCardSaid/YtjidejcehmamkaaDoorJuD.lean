/- The juror: notes, plans and records as laws of states. No condition. -/
import Derived.Test.YtjidejcehmamkaaDoorVtV
import Derived.Test.YtjidejcehmamkaaDoorNoteC
import Derived.Test.YtjidejcehmamkaaDoorAskE
set_option linter.unusedVariables false
set_option linter.unusedSimpArgs false
namespace Go.Proofs.YtjidejcehmamkaaDoor
open Go Go.SX
structure JS where
  v : VS
  parts : List (Int × List Int)
  done : List (Int × Int)
structure PA where
  rec_ : List NA
  mail : List (Int × NA)
  els : List (Int × NA)
def PA.none : PA := ⟨[], [], []⟩
abbrev voteN (txn code : Int) : Int × NA := (0, { NA.zero with kind := 4, txn := txn, code := code })
def takenV (st : VS) (ops : VL) : Bool := st.its.any fun i => i.2.2.any fun o => holdsV ops o.1
def aboveV (st : VS) (s : Int) (ops : VL) : Bool := !st.ch.any fun c => decide (s ≤ lastS c.2) && holdsV ops c.1
def prepV (j : JS) (n : NA) : PA :=
  if (lkL j.done n.txn).isSome ∨ checkV j.v.dim n.ops ≠ 0 then PA.none
  else if (lkL j.v.its n.txn).isSome then ⟨[], [voteN n.txn 0], []⟩
  else if takenV j.v n.ops then ⟨[], [voteN n.txn 11], []⟩
  else ⟨[{ n with kind := 12 }], [voteN n.txn 0], [voteN n.txn 8]⟩
abbrev ackN (txn : Int) : Int × NA := (0, { NA.zero with kind := 6, txn := txn })
def deciV (j : JS) (from_ : Int) (n : NA) : PA :=
  if n.code ≠ 0 then if (lkL j.v.its n.txn).isSome ∧ from_ = 0 then ⟨[{ NA.zero with kind := 14, txn := n.txn }], [], []⟩ else PA.none
  else match lkL j.done n.txn with
    | some s => if s = n.stamp then ⟨[], [ackN n.txn], []⟩ else PA.none
    | none => match lkL j.v.its n.txn with
      | some i => if max i.1 j.v.mark < n.stamp ∧ aboveV j.v n.stamp i.2 = true then ⟨[{ NA.zero with kind := 13, txn := n.txn, stamp := n.stamp }], [ackN n.txn], []⟩ else PA.none
      | none => PA.none
def planV (j : JS) (from_ : Int) (n : NA) : PA :=
  if rightN n = false then PA.none
  else if n.kind = 3 then if from_ = 0 then prepV j n else PA.none
  else if n.kind = 5 then deciV j from_ n
  else if n.kind = 7 then match lkL j.done n.txn with
    | some s => ⟨[], [(from_, { NA.zero with kind := 5, txn := n.txn, stamp := s })], []⟩
    | none => PA.none
  else PA.none
def appE (j : JS) (n : NA) : Int :=
  if rightN n = false then 4
  else if n.kind = 12 then lockE j.v n.txn n.after n.ops
  else if n.kind = 13 then applyE j.v n.txn n.stamp
  else if n.kind = 14 then if (lkL j.v.its n.txn).isSome then 0 else 6
  else if n.kind = 15 then 0
  else 4
def appS (j : JS) (n : NA) : JS :=
  if appE j n ≠ 0 then j
  else if n.kind = 12 then ⟨lockS j.v n.txn n.after n.ops, putL j.parts n.txn n.parts, j.done⟩
  else if n.kind = 13 then ⟨applyS j.v n.txn n.stamp, delL j.parts n.txn, putL j.done n.txn n.stamp⟩
  else if n.kind = 14 then ⟨{ j.v with its := delL j.v.its n.txn }, delL j.parts n.txn, j.done⟩
  else if n.kind = 15 then ⟨sweepS j.v n.mark, j.parts, j.done⟩
  else j
structure JOK (j : JS) (n : Nat) : Prop where
  w : WFK j.v n
  kp : keysOK j.parts
  kd : keysOK j.done
  o : ∀ t s, lkL j.done t = some s → lkL j.v.its t = none
  p : ∀ t s, lkL j.done t = some s → 0 < s
  m : 0 ≤ j.v.mark
  ne : ∀ c ∈ j.v.ch, 0 < c.2.length
theorem right_abort {t : Int} (h : 0 ≤ t) : rightN { NA.zero with kind := 14, txn := t } = true := by
  unfold rightN boundN NA.bits NA.zero bareV
  by_cases h0 : 0 < t
  · simp [h0, List.zipIdx, fldN, partsV]
  · simp [h0, List.zipIdx, fldN, partsV]
theorem right_commit {t s : Int} (h2 : s ≤ 1099511627776) : rightN { NA.zero with kind := 13, txn := t, stamp := s } = true := by
  unfold rightN boundN NA.bits NA.zero bareV
  by_cases h0 : 0 < t <;> by_cases h1 : 0 < s <;> simp [h0, h1, List.zipIdx, fldN, partsV] <;> first | omega | (refine ⟨?_, ?_⟩ <;> first | decide | omega)
theorem right_prep {n : NA} (h : rightN n = true) (hk : n.kind = 3) : rightN { n with kind := 12 } = true := by
  unfold rightN at h ⊢
  rw [hk] at h
  exact h
theorem right_bound {n : NA} (h : rightN n = true) : n.stamp ≤ 1099511627776 ∧ n.after ≤ 1099511627776 ∧ n.mark ≤ 1099511627776 := by
  unfold rightN boundN at h
  simp only [Bool.and_eq_true, Bool.not_eq_true', Bool.or_eq_false_iff, decide_eq_false_iff_not] at h
  omega
end Go.Proofs.YtjidejcehmamkaaDoor
/- The juror: what it plans can be applied; what is over stays so. No condition. -/
namespace Go.Proofs.YtjidejcehmamkaaDoor
open Go Go.SX
theorem isSome_ne {α : Type} {o : Option α} (h : ¬ o.isSome = true) : o = none := by cases o with
  | none => rfl
  | some a => exact absurd rfl h
theorem lkL_snoc {κ α : Type} [DecidableEq κ] {m : List (κ × α)} {x y : κ} {a : α} (h : lkL m x = none) : lkL (m ++ [(x, a)]) y = if y = x then some a else lkL m y := by
  have hm := lk_none' h
  by_cases hy : y = x
  · subst hy
    rw [if_pos rfl]
    exact lkL_mid (q := []) hm
  · rw [if_neg hy]
    unfold lkL
    rw [List.find?_append]
    have : (List.find? (fun p : κ × α => decide (p.1 = y)) [(x, a)]) = none := by simp [Ne.symm hy]
    rw [this, Option.or_none]
theorem lkL_delE {κ α : Type} [DecidableEq κ] (m : List (κ × α)) (x : κ) : lkL (delL m x) x = none := lkL_none fun u hu => by
  have := (List.mem_filter.1 hu).2
  simpa using this
theorem lkL_delI {κ α : Type} [DecidableEq κ] {m : List (κ × α)} (x y : κ) : lkL (delL m x) y = if y = x then none else lkL m y := by
  by_cases hy : y = x
  · subst hy; rw [if_pos rfl, lkL_delE]
  · rw [if_neg hy, lkL_del x y hy]
theorem taken_lock {st : VS} {ops : VL} (h : takenV st ops = false) : (ops.any fun o => st.its.any fun i => holdsV i.2.2 o.1) = false := by
  rw [List.any_eq_false]
  intro o ho hh
  obtain ⟨i, hi, hx⟩ := List.any_eq_true.1 hh
  unfold holdsV at hx
  obtain ⟨u, hu, hux⟩ := List.any_eq_true.1 hx
  have hux := of_decide_eq_true hux
  have : takenV st ops = true := by
    unfold takenV
    refine List.any_eq_true.2 ⟨i, hi, List.any_eq_true.2 ⟨u, hu, ?_⟩⟩
    unfold holdsV
    exact List.any_eq_true.2 ⟨o, ho, decide_eq_true hux.symm⟩
  rw [h] at this; cases this
theorem prep_lock {j : JS} {n : NA} (ha : n.after ≤ 1099511627776) (hc : checkV j.v.dim n.ops = 0) (hl : lkL j.v.its n.txn = none) (ht : takenV j.v n.ops = false) : lockE j.v n.txn n.after n.ops = 0 := by
  unfold lockE
  rw [if_neg (by omega), if_neg (by simp [hc]), hl, if_neg (by simp), taken_lock ht]
  rfl
theorem above_apply {j : JS} {t s : Int} {i : Int × VL} (hl : lkL j.v.its t = some i) (h1 : max i.1 j.v.mark < s) (hm : 0 ≤ j.v.mark) (h2 : s ≤ 1099511627776) (ha : aboveV j.v s i.2 = true) : applyE j.v t s = 0 := by
  unfold applyE
  rw [hl]
  dsimp only
  rw [if_neg (by omega)]
  have hno : (i.2.any fun o => decide (s ≤ lastS (chV j.v.ch o.1))) = false := by
    rw [List.any_eq_false]
    intro o ho hh
    have hh := of_decide_eq_true hh
    unfold chV at hh
    cases hz : lkL j.v.ch o.1 with
    | none =>
      rw [hz] at hh
      have : lastS ([] : VL) = 0 := rfl
      rw [Option.getD_none, this] at hh
      omega
    | some w =>
      rw [hz, Option.getD_some] at hh
      have hmem := lk_memL hz
      unfold aboveV at ha
      rw [Bool.not_eq_true', List.any_eq_false] at ha
      refine ha _ hmem ?_
      rw [Bool.and_eq_true]
      refine ⟨decide_eq_true hh, ?_⟩
      unfold holdsV
      exact List.any_eq_true.2 ⟨o, ho, decide_eq_true rfl⟩
  rw [hno, if_neg (by simp), if_neg (by omega)]
theorem applyC_ne {s : Int} {ops : VL} {ch : List (Int × VL)} (hk : keysOK ch) (hn : (ops.map (·.1)).Nodup) (h : ∀ c ∈ ch, 0 < c.2.length) : ∀ c ∈ applyC s ch ops, 0 < c.2.length := fun c hc => by
  rcases applyC_mem hk hn hc with hc | ⟨o, ho, rfl⟩
  · exact h c hc
  · simp
structure Once (j : JS) (k : Nat) (n r : NA) : Prop where
  tx : r.txn = n.txn
  nd : lkL j.done n.txn = none
  e : appE j r = 0
  ok : JOK (appS j r) (k + 1)
  rt : rightN r = true
theorem JOK.le {j : JS} {a b : Nat} (h : JOK j a) (hl : a ≤ b) : JOK j b := ⟨h.w.mono hl, h.kp, h.kd, h.o, h.p, h.m, h.ne⟩
theorem once_prep {j : JS} {k : Nat} (hj : JOK j k) {n : NA} (hr : rightN n = true) (hk : n.kind = 3) (hd : lkL j.done n.txn = none) (hc : checkV j.v.dim n.ops = 0) (hl : lkL j.v.its n.txn = none) (ht : takenV j.v n.ops = false) :
    Once j k n { n with kind := 12 } ∧ (appS j { n with kind := 12 }).done = j.done ∧ ∀ t, (lkL (appS j { n with kind := 12 }).v.its t).isSome = true → t = n.txn ∨ (lkL j.v.its t).isSome = true := by
  have hb := right_bound hr
  have hlk := prep_lock (j := j) hb.2.1 hc hl ht
  have hr2 := right_prep hr hk
  have hE : appE j { n with kind := 12 } = 0 := by
    unfold appE
    rw [if_neg (by rw [hr2]; decide), if_pos rfl]
    exact hlk
  have hS : appS j { n with kind := 12 } = ⟨lockS j.v n.txn n.after n.ops, putL j.parts n.txn n.parts, j.done⟩ := by
    unfold appS
    rw [if_neg (by rw [hE]; decide), if_pos rfl]
  have hSv : lockS j.v n.txn n.after n.ops = { j.v with its := j.v.its ++ [(n.txn, n.after, n.ops)] } := by unfold lockS; rw [if_pos hlk]
  refine ⟨⟨rfl, hd, hE, ?_, hr2⟩, by rw [hS], fun t h => ?_⟩
  · rw [hS]
    refine ⟨hj.w.lock _ _ _, putL_ok hj.kp _ _, hj.kd, fun t s h => ?_, hj.p, ?_, ?_⟩
    · dsimp only at h ⊢
      rw [hSv]
      dsimp only
      rw [lkL_snoc hl]
      by_cases ht : t = n.txn
      · subst ht; rw [hd] at h; cases h
      · rw [if_neg ht]; exact hj.o t s h
    · rw [hSv]; exact hj.m
    · rw [hSv]; exact hj.ne
  · rw [hS] at h
    dsimp only at h
    rw [hSv] at h
    dsimp only at h
    rw [lkL_snoc hl] at h
    by_cases ht : t = n.txn
    · exact .inl ht
    · rw [if_neg ht] at h; exact .inr h
abbrev comN (t s : Int) : NA := { NA.zero with kind := 13, txn := t, stamp := s }
abbrev aboN (t : Int) : NA := { NA.zero with kind := 14, txn := t }
theorem once_commit {j : JS} {k : Nat} (hj : JOK j k) {n : NA} (hr : rightN n = true) (hd : lkL j.done n.txn = none) {i : Int × VL} (hl : lkL j.v.its n.txn = some i) (h1 : max i.1 j.v.mark < n.stamp) (ha : aboveV j.v n.stamp i.2 = true) :
    Once j k n (comN n.txn n.stamp) ∧ 0 < n.stamp ∧ (appS j (comN n.txn n.stamp)).done = putL j.done n.txn n.stamp ∧ ∀ t, (lkL (appS j (comN n.txn n.stamp)).v.its t).isSome = true → (lkL j.v.its t).isSome = true := by
  have hb := right_bound hr
  have hm := hj.m
  have hE0 := above_apply hl h1 hj.m hb.1 ha
  have hr2 : rightN (comN n.txn n.stamp) = true := right_commit hb.1
  have hE : appE j (comN n.txn n.stamp) = 0 := by
    unfold appE
    rw [if_neg (by rw [hr2]; decide), if_neg (show ¬ (13 : Int) = 12 by decide), if_pos rfl]
    exact hE0
  have hS : appS j (comN n.txn n.stamp) = ⟨applyS j.v n.txn n.stamp, delL j.parts n.txn, putL j.done n.txn n.stamp⟩ := by
    unfold appS
    rw [if_neg (by rw [hE]; decide), if_neg (show ¬ (13 : Int) = 12 by decide), if_pos rfl]
  have hSv : applyS j.v n.txn n.stamp = { j.v with ch := applyC n.stamp j.v.ch i.2, its := delL j.v.its n.txn } := by unfold applyS; rw [hl]; dsimp only; rw [if_pos hE0]
  have hpos : 0 < n.stamp := by omega
  refine ⟨⟨rfl, hd, hE, ?_, hr2⟩, hpos, by rw [hS], fun t h => ?_⟩
  · rw [hS]
    refine ⟨hj.w.apply _ _, delL_ok hj.kp _, putL_ok hj.kd _ _, fun t s h => ?_, fun t s h => ?_, ?_, ?_⟩
    · dsimp only at h ⊢
      rw [hSv]
      dsimp only
      rw [lkL_put hj.kd] at h
      rw [lkL_delI]
      by_cases ht : t = n.txn
      · rw [if_pos ht]
      · rw [if_neg ht] at h ⊢; exact hj.o t s h
    · dsimp only at h
      rw [lkL_put hj.kd] at h
      by_cases ht : t = n.txn
      · rw [if_pos ht] at h; cases h; exact hpos
      · rw [if_neg ht] at h; exact hj.p t s h
    · rw [hSv]; exact hj.m
    · rw [hSv]
      exact applyC_ne hj.w.k1 (hj.w.wf.io _ (lk_memL hl)).2.1 hj.ne
  · rw [hS] at h
    dsimp only at h
    rw [hSv] at h
    dsimp only at h
    rw [lkL_delI] at h
    by_cases ht : t = n.txn
    · rw [if_pos ht] at h; cases h
    · rw [if_neg ht] at h; exact h
theorem once_abort {j : JS} {k : Nat} (hj : JOK j k) {n : NA} (h0 : 0 ≤ n.txn) (hl : (lkL j.v.its n.txn).isSome = true) :
    Once j k n (aboN n.txn) ∧ (appS j (aboN n.txn)).done = j.done ∧ ∀ t, (lkL (appS j (aboN n.txn)).v.its t).isSome = true → t ≠ n.txn ∧ (lkL j.v.its t).isSome = true := by
  have hd : lkL j.done n.txn = none := by
    cases hz : lkL j.done n.txn with
    | none => rfl
    | some s => rw [hj.o _ _ hz] at hl; cases hl
  have hr2 : rightN (aboN n.txn) = true := right_abort h0
  have hE : appE j (aboN n.txn) = 0 := by
    unfold appE
    rw [if_neg (by rw [hr2]; decide), if_neg (show ¬ (14 : Int) = 12 by decide), if_neg (show ¬ (14 : Int) = 13 by decide), if_pos rfl]
    exact if_pos hl
  have hS : appS j (aboN n.txn) = ⟨{ j.v with its := delL j.v.its n.txn }, delL j.parts n.txn, j.done⟩ := by
    unfold appS
    rw [if_neg (by rw [hE]; decide), if_neg (show ¬ (14 : Int) = 12 by decide), if_neg (show ¬ (14 : Int) = 13 by decide), if_pos rfl]
  refine ⟨⟨rfl, hd, hE, ?_, hr2⟩, by rw [hS], fun t h => ?_⟩
  · rw [hS]
    refine ⟨(hj.w.free _).mono (by omega), delL_ok hj.kp _, hj.kd, fun t s h => ?_, hj.p, hj.m, hj.ne⟩
    dsimp only at h ⊢
    rw [lkL_delI]
    by_cases ht : t = n.txn
    · rw [if_pos ht]
    · rw [if_neg ht]; exact hj.o t s h
  · rw [hS] at h
    dsimp only at h
    rw [lkL_delI] at h
    by_cases ht : t = n.txn
    · rw [if_pos ht] at h; cases h
    · rw [if_neg ht] at h; exact ⟨ht, h⟩
theorem plan_cases {j : JS} {k : Nat} (hj : JOK j k) {n : NA} (h0 : 0 ≤ n.txn) (f : Int) :
    (planV j f n).rec_ = [] ∨
    ((planV j f n).rec_ = [{ n with kind := 12 }] ∧ Once j k n { n with kind := 12 } ∧ (appS j { n with kind := 12 }).done = j.done ∧ ∀ t, (lkL (appS j { n with kind := 12 }).v.its t).isSome = true → t = n.txn ∨ (lkL j.v.its t).isSome = true) ∨
    ((planV j f n).rec_ = [comN n.txn n.stamp] ∧ (lkL j.v.its n.txn).isSome = true ∧ Once j k n (comN n.txn n.stamp) ∧ 0 < n.stamp ∧ (appS j (comN n.txn n.stamp)).done = putL j.done n.txn n.stamp ∧ ∀ t, (lkL (appS j (comN n.txn n.stamp)).v.its t).isSome = true → (lkL j.v.its t).isSome = true) ∨
    ((planV j f n).rec_ = [aboN n.txn] ∧ Once j k n (aboN n.txn) ∧ (appS j (aboN n.txn)).done = j.done ∧ ∀ t, (lkL (appS j (aboN n.txn)).v.its t).isSome = true → t ≠ n.txn ∧ (lkL j.v.its t).isSome = true) := by
  unfold planV
  cases hr : rightN n with
  | false => left; rfl
  | true =>
  rw [if_neg (by decide)]
  by_cases h3 : n.kind = 3
  · rw [if_pos h3]
    by_cases hf : f = 0
    · rw [if_pos hf]
      unfold prepV
      by_cases c1 : (lkL j.done n.txn).isSome = true ∨ checkV j.v.dim n.ops ≠ 0
      · rw [if_pos c1]; left; rfl
      rw [if_neg c1]
      simp only [not_or, Decidable.not_not] at c1
      by_cases c2 : (lkL j.v.its n.txn).isSome = true
      · rw [if_pos c2]; left; rfl
      rw [if_neg c2]
      cases c3 : takenV j.v n.ops with
      | true => left; rfl
      | false =>
        rw [if_neg (by decide)]
        right; left
        exact ⟨rfl, once_prep hj hr h3 (isSome_ne c1.1) c1.2 (isSome_ne c2) c3⟩
    · rw [if_neg hf]; left; rfl
  rw [if_neg h3]
  by_cases h5 : n.kind = 5
  · rw [if_pos h5]
    unfold deciV
    by_cases c1 : n.code ≠ 0
    · rw [if_pos c1]
      by_cases c2 : (lkL j.v.its n.txn).isSome = true ∧ f = 0
      · rw [if_pos c2]
        right; right; right
        exact ⟨rfl, once_abort hj h0 c2.1⟩
      · rw [if_neg c2]; left; rfl
    rw [if_neg c1]
    cases hd : lkL j.done n.txn with
    | some s =>
      dsimp only
      by_cases c2 : s = n.stamp
      · rw [if_pos c2]; left; rfl
      · rw [if_neg c2]; left; rfl
    | none =>
      dsimp only
      cases hl : lkL j.v.its n.txn with
      | none => left; rfl
      | some i =>
        dsimp only
        by_cases c3 : max i.1 j.v.mark < n.stamp ∧ aboveV j.v n.stamp i.2 = true
        · rw [if_pos c3]
          right; right; left
          exact ⟨rfl, rfl, once_commit hj hr hd hl c3.1 c3.2⟩
        · rw [if_neg c3]; left; rfl
  rw [if_neg h5]
  by_cases h7 : n.kind = 7
  · rw [if_pos h7]
    cases hd : lkL j.done n.txn with
    | some s => left; rfl
    | none => left; rfl
  · rw [if_neg h7]; left; rfl
end Go.Proofs.YtjidejcehmamkaaDoor
/- The juror as it lies; its simple calls. No condition. -/
namespace Go.Proofs.YtjidejcehmamkaaDoor
open Go Go.SX
attribute [local irreducible] swp opsS thenS blockS retS CallsS St Ent YieldS anyS drawS
structure okN (M : Nat → Option Obj) (n : NV) : Prop where
  p : SlM M n.pa n.parts.length 1 (n.parts.map I64)
  o : SlM M n.oa n.ops.length 2 (n.ops.flatMap OV.cells) ∧ okR M n.ops
  v : SlM M n.va n.vec.length 1 (n.vec.map I32)
  h : SlM M n.ha n.hits.length 3 (n.hits.flatMap HV.cells)
  hv : ∀ h ∈ n.hits, SlM M h.a h.vec.length 1 (h.vec.map I32)
theorem okN.mono {M M' : Nat → Option Obj} {n : NV} (h : okN M n) (hl : leM M M') : okN M' n := ⟨h.p.mono hl, ⟨h.o.1.mono hl, fun o ho => (h.o.2 o ho).mono hl⟩, h.v.mono hl, h.h.mono hl, fun x hx => (h.hv x hx).mono hl⟩
theorem okN.rd {M : Nat → Option Obj} {n : NV} (h : okN M n) {L : List HP} [HasM M L] : RdN L n := ⟨h.p.rd, ⟨h.o.1.rd, fun o ho => (h.o.2 o ho).rd⟩, h.v.rd, h.h.rd, fun x hx => (h.hv x hx).rd⟩
def TabM (M : Nat → Option Obj) : Prop := SlM M (some ⟨0, 0, none⟩) 46 1 sortsC
theorem TabM.mono {M M' : Nat → Option Obj} (h : TabM M) (hl : leM M M') : TabM M' := SlM.mono h hl
theorem TabM.rd {M : Nat → Option Obj} (h : TabM M) {L : List HP} [HasM M L] : RdC L 0 0 sortsC := by
  have h1 : RdS L (some ⟨0, 0, none⟩) 46 1 sortsC := SlM.rd h
  rcases h1.2 with h2 | ⟨b, o, e, r⟩
  · cases h2
  · cases e; exact r
structure NumN (n : NV) : Prop where
  kind : 0 ≤ n.kind ∧ n.kind ≤ 255
  txn : 0 ≤ n.txn
  stamp : 0 ≤ n.stamp
  mark : 0 ≤ n.mark
  after : 0 ≤ n.after
abbrev NA.nv (r : NA) : NV := ⟨r.kind, r.txn, r.batch, r.stamp, r.after, r.mark, r.query, r.id, r.k, r.ef, r.code, r.who, none, 0, [], none, 0, [], none, 0, [], none, 0, []⟩
theorem SlM.nil0 {M : Nat → Option Obj} {a : Option Addr} {sz : Nat} : SlM M a 0 sz [] := ⟨by simp, .inl rfl⟩
theorem okN.nv {M : Nat → Option Obj} (r : NA) : okN M r.nv := ⟨SlM.nil0, ⟨SlM.nil0, fun o ho => by cases ho⟩, SlM.nil0, SlM.nil0, fun o ho => by cases ho⟩
theorem OkN.nv (r : NA) : OkN r.nv := ⟨Nat.zero_le _, Nat.zero_le _, (fun o ho => by cases ho), Nat.zero_le _, Nat.zero_le _, (fun o ho => by cases ho)⟩
abbrev ptrJ (p : Nat) : Value := .pointer (some ⟨p, 0, none⟩)
structure PV where
  a : Option Addr
  c : Nat
  l : List Int
abbrev PV.val (v : PV) : Value := .slice v.a v.l.length v.c
structure JQ (M : Nat → Option Obj) (j : JS) (sf : Int) (ps : List (Int × PV)) : Prop where
  s1 : 1 ≤ sf
  s2 : sf ≤ 15
  pt : ps.map (fun u => (u.1, u.2.l)) = j.parts
  ok : ∀ u ∈ ps, SlM M u.2.a u.2.l.length 1 (u.2.l.map I64)
theorem JQ.mono {M M' : Nat → Option Obj} {j : JS} {self : Int} {ps : List (Int × PV)} (h : JQ M j self ps) (hl : leM M M') : JQ M' j self ps := ⟨h.s1, h.s2, h.pt, fun u hu => (h.ok u hu).mono hl⟩
abbrev jP (p v : Nat) (self dim : Int) (mp md : Nat) : HP := pt p (cl [ptrV v, .int .i64 self, .int .i64 dim, .map (some mp), .map (some md)] 58)
abbrev jT (mp : Nat) (ps : List (Int × PV)) : HP := mpO U64 PV.val mp ps
abbrev jD (md : Nat) (d : List (Int × Int)) : HP := mpO U64 U64 md d
structure JX where
  v : Nat
  mp : Nat
  md : Nat
  self : Int
  ps : List (Int × PV)
def jurH (M : Nat → Option Obj) (p : Nat) (j : JS) : HP := exH fun x : JX => allH [pureH (JQ M j x.self x.ps), jP p x.v x.self j.v.dim x.mp x.md, vaultH x.v j.v, jT x.mp x.ps, jD x.md j.done]
theorem jur_shut {p v mp md : Nat} {self dim : Int} {M : Nat → Option Obj} {j : JS} {ps : List (Int × PV)} {L : List HP} (h : JQ M j self ps) (hd : dim = j.v.dim) : Ent (jP p v self dim mp md :: vaultH v j.v :: jT mp ps :: jD md j.done :: L) (jurH M p j :: L) := by
  subst hd
  exact Ent.trans (Ent.shut_pure h) (Ent.trans (Ent.shut_all (L := [_, _, _, _, _])) (Ent.shut_ex (P := fun x : JX => allH [pureH (JQ M j x.self x.ps), jP p x.v x.self j.v.dim x.mp x.md, vaultH x.v j.v, jT x.mp x.ps, jD x.md j.done]) ⟨v, mp, md, self, ps⟩))
theorem jur_open {p : Nat} {M : Nat → Option Obj} {j : JS} {L L' : List HP} (h : ∀ v mp md self ps, JQ M j self ps → Ent (jP p v self j.v.dim mp md :: vaultH v j.v :: jT mp ps :: jD md j.done :: L) L') : Ent (jurH M p j :: L) L' :=
  Ent.ex fun x => Ent.open_all.trans (Ent.pure fun hx => h x.v x.mp x.md x.self x.ps hx)
theorem jur_mono {p : Nat} {M M' : Nat → Option Obj} {j : JS} {L : List HP} (hl : leM M M') : Ent (jurH M p j :: L) (jurH M' p j :: L) := jur_open fun _ _ _ _ _ hq => jur_shut (hq.mono hl) rfl
theorem calls_jur {g : FuncId} {args : List Value} {R : Value → List HP → Prop} {p : Nat} {M : Nat → Option Obj} {j : JS} {L : List HP}
    (h : ∀ v mp md self ps, JQ M j self ps → CallsS Tryd.prog g args (jP p v self j.v.dim mp md :: vaultH v j.v :: jT mp ps :: jD md j.done :: L) R) : CallsS Tryd.prog g args (jurH M p j :: L) R :=
  CallsS.ex fun x => CallsS.all (CallsS.pure fun hx => h x.v x.mp x.md x.self x.ps hx)
class PickJ (p : Nat) (L : List HP) (M : outParam (Nat → Option Obj)) (j : outParam JS) (L0 : outParam (List HP)) : Prop where
  ent : Ent L (jurH M p j :: L0)
instance PickJ.here {p : Nat} {M : Nat → Option Obj} {L : List HP} {j : JS} : PickJ p (jurH M p j :: L) M j L := ⟨Ent.refl _⟩
instance (priority := low) PickJ.there {p : Nat} {M : Nat → Option Obj} {A : HP} {L L0 : List HP} {j : JS} [h : PickJ p L M j L0] : PickJ p (A :: L) M j (A :: L0) := ⟨(h.ent.cons).trans (Ent.perm (.swap _ _ _))⟩
section
variable {n : Nat} {ops rest : List Oper} {cd : Code} {Q : Post} {f : Env} {L L0 : List HP} {M : Nat → Option Obj} {j : JS}
theorem swp_jur (p : Nat) [hp : PickJ p L M j L0] (h : ∀ v mp md self ps, JQ M j self ps → swp Tryd.prog n cd Q f (jP p v self j.v.dim mp md :: vaultH v j.v :: jT mp ps :: jD md j.done :: L0)) : swp Tryd.prog n cd Q f L :=
  swp_ent hp.ent (swp_ex fun x => swp_all (swp_pure fun hx => h x.v x.mp x.md x.self x.ps hx))
theorem opsS_jur (p : Nat) [hp : PickJ p L M j L0] (h : ∀ v mp md self ps, JQ M j self ps → opsS Tryd.prog n ops rest Q f (jP p v self j.v.dim mp md :: vaultH v j.v :: jT mp ps :: jD md j.done :: L0)) : opsS Tryd.prog n ops rest Q f L :=
  opsS_ent hp.ent (opsS_ex fun x => opsS_all (opsS_pure fun hx => h x.v x.mp x.md x.self x.ps hx))
theorem S.cj {d : Tmp} {ty : TypeId} {pos : String} {af : Array Edge} {g : FuncId} {xs : Array Operand} {ats : Array TypeId} {args : List Value} {R : Value → List HP → Prop} {M2 : Nat → Option Obj} {L1 : List HP} (p : Nat) [hp : PickJ p L M j L0] [hm : PickM L0 M2 L1] [he : Enters Tryd.prog g] (hx : argsL f xs.toList = some args) (hc : CallsS Tryd.prog g args (jurH M p j :: roM M2 :: L1) R) (hk : ∀ v L', R v L' → opsS Tryd.prog n ops rest Q (upd f d v) L') :
    opsS Tryd.prog n ops (⟨some d, .call ⟨.value (.func g), xs, ats⟩, ty, pos, af, none⟩ :: rest) Q f L := opsS_ent (hp.ent.trans (Ent.cons hm.ent)) (S.cr hx hc hk)
theorem S.cjn {d : Tmp} {ty : TypeId} {pos : String} {af : Array Edge} {g : FuncId} {xs : Array Operand} {ats : Array TypeId} {args : List Value} {R : Value → List HP → Prop} (p : Nat) [hp : PickJ p L M j L0] [he : Enters Tryd.prog g] (hx : argsL f xs.toList = some args) (hc : CallsS Tryd.prog g args (jurH M p j :: L0) R) (hk : ∀ v L', R v L' → opsS Tryd.prog n ops rest Q (upd f d v) L') :
    opsS Tryd.prog n ops (⟨some d, .call ⟨.value (.func g), xs, ats⟩, ty, pos, af, none⟩ :: rest) Q f L := opsS_ent hp.ent (S.cr hx hc hk)
end
theorem jclose {p v mp md : Nat} {sf dim : Int} {M : Nat → Option Obj} {j : JS} {ps : List (Int × PV)} {L L0 L1 L2 L3 : List HP} [h1 : Pick (jP p v sf dim mp md) L L0] [h2 : Pick (vaultH v j.v) L0 L1] [h3 : Pick (jT mp ps) L1 L2] [h4 : Pick (jD md j.done) L2 L3] (hq : JQ M j sf ps) (hd : dim = j.v.dim) : Ent L (jurH M p j :: L3) :=
  Ent.trans h1.ent (Ent.trans (Ent.cons (Ent.trans h2.ent (Ent.cons (Ent.trans h3.ent (Ent.cons h4.ent))))) (jur_shut hq hd))
theorem vaultOf_spec (p v : Nat) (self dim : Int) (mp md : Nat) (L : List HP) :
    CallsS Tryd.prog 48 [ptrJ p] (jP p v self dim mp md :: L) (fun r L' => r = ptrV v ∧ L' = jP p v self dim mp md :: L) := by
  refine CallsS.of_body Tryd.func48 rfl rfl rfl ?_
  refine Q.r ?_; (repeat (intro b1; refine Q.r ?_))
  exact N.r1 (RV.tmp rfl RV.nil) (Ent.refl _) ⟨rfl, rfl⟩
theorem JMark_spec (M : Nat → Option Obj) (p : Nat) (j : JS) (L : List HP) :
    CallsS Tryd.prog 30 [ptrJ p] (jurH M p j :: L) (fun r L' => r = .int .u64 j.v.mark ∧ L' = jurH M p j :: L) := by
  refine calls_jur fun v mp md self ps hq => ?_
  refine CallsS.of_body Tryd.func30 rfl rfl rfl ?_
  refine Q.r ?_; (repeat (intro b1; refine Q.r ?_))
  refine S.cr rfl (vaultOf_spec p v self j.v.dim mp md _) ?_
  rintro _ _ ⟨rfl, rfl⟩
  refine Q.r ?_; (repeat (intro b1; refine Q.r ?_))
  refine S.cv v rfl (Mark_spec v j.v _) ?_
  rintro _ _ ⟨rfl, rfl⟩
  refine Q.r ?_; (repeat (intro b1; refine Q.r ?_))
  exact N.r1 (RV.tmp rfl RV.nil) (Ent.trans (Ent.perm (.swap _ _ _)) (jur_shut hq rfl)) ⟨rfl, rfl⟩
theorem JIntents_spec (M : Nat → Option Obj) (p : Nat) (j : JS) (n : Nat) (L : List HP) (hw : WF j.v n) (hn : n ≤ 10000) :
    CallsS Tryd.prog 46 [ptrJ p] (jurH M p j :: roM M :: L) (fun r L' => ∃ (a : Option Addr) (c : Nat) (es : List IV) (M' : Nat → Option Obj), r = .slice a es.length c ∧ leM M M' ∧ SlM M' a es.length 3 (es.flatMap IV.cells) ∧ (∀ e ∈ es, okI M' e) ∧ (es.map IV.abs).Perm j.v.its ∧ L' = jurH M' p j :: roM M' :: L) := by
  refine calls_jur fun v mp md self ps hq => ?_
  refine CallsS.of_body Tryd.func46 rfl rfl rfl ?_
  refine Q.r ?_; (repeat (intro b1; refine Q.r ?_))
  refine S.cr rfl (vaultOf_spec p v self j.v.dim mp md _) ?_
  rintro _ _ ⟨rfl, rfl⟩
  refine Q.r ?_; (repeat (intro b1; refine Q.r ?_))
  refine S.cv v rfl (IntentsO_spec v j.v n _ hw hn) ?_
  rintro _ _ ⟨a, c, es, rfl, hp, hs, rfl⟩
  refine opsS_abs a (fun M1 hl1 hs1 => ?_)
  refine opsS_absI es (fun M2 hl2 hs2 => ?_)
  refine Q.r ?_; (repeat (intro b1; refine Q.r ?_))
  refine N.r1 (RV.tmp rfl RV.nil) (Ent.trans (M := jP p v self j.v.dim mp md :: vaultH v j.v :: jT mp ps :: jD md j.done :: roM M2 :: L) (by repeat (first | exact Ent.refl _ | exact Ent.nil | refine Ent.pick ?_ | refine Ent.nilS ?_ | refine Ent.nilM ?_ | refine Ent.drop ?_)) (jur_shut (hq.mono (hl1.trans hl2)) rfl)) ⟨a, c, es, M2, rfl, hl1.trans hl2, hs1.mono hl2, hs2, hp, rfl⟩
theorem JDump_spec (M : Nat → Option Obj) (p : Nat) (j : JS) (n : Nat) (L : List HP) (hw : WF j.v n) (hn : n ≤ 10000) :
    CallsS Tryd.prog 50 [ptrJ p] (jurH M p j :: roM M :: L) (fun r L' => ∃ (a : Option Addr) (c : Nat) (es : List EV) (M' : Nat → Option Obj), r = .slice a es.length c ∧ leM M M' ∧ SlM M' a es.length 2 (es.flatMap EV.cells) ∧ (∀ e ∈ es, okE M' e) ∧ (es.map EV.abs).Perm j.v.ch ∧ L' = jurH M' p j :: roM M' :: L) := by
  refine calls_jur fun v mp md self ps hq => ?_
  refine CallsS.of_body Tryd.func50 rfl rfl rfl ?_
  refine Q.r ?_; (repeat (intro b1; refine Q.r ?_))
  refine S.cr rfl (vaultOf_spec p v self j.v.dim mp md _) ?_
  rintro _ _ ⟨rfl, rfl⟩
  refine Q.r ?_; (repeat (intro b1; refine Q.r ?_))
  refine S.cv v rfl (DumpO_spec v j.v n _ hw hn) ?_
  rintro _ _ ⟨a, c, es, rfl, hp, hs, rfl⟩
  refine opsS_abs a (fun M1 hl1 hs1 => ?_)
  refine opsS_absE es (fun M2 hl2 hs2 => ?_)
  refine Q.r ?_; (repeat (intro b1; refine Q.r ?_))
  refine N.r1 (RV.tmp rfl RV.nil) (Ent.trans (M := jP p v self j.v.dim mp md :: vaultH v j.v :: jT mp ps :: jD md j.done :: roM M2 :: L) (by repeat (first | exact Ent.refl _ | exact Ent.nil | refine Ent.pick ?_ | refine Ent.nilS ?_ | refine Ent.nilM ?_ | refine Ent.drop ?_)) (jur_shut (hq.mono (hl1.trans hl2)) rfl)) ⟨a, c, es, M2, rfl, hl1.trans hl2, hs1.mono hl2, hs2, hp, rfl⟩
theorem JDone_spec (M : Nat → Option Obj) (p : Nat) (j : JS) (t : Int) (L : List HP) :
    CallsS Tryd.prog 9 [ptrJ p, .int .u64 t] (jurH M p j :: L) (fun r L' => r = .tuple #[.int .u64 ((lkL j.done t).getD 0), .bool (lkL j.done t).isSome] ∧ L' = jurH M p j :: L) := by
  refine calls_jur fun v mp md self ps hq => ?_
  refine CallsS.of_body Tryd.func9 rfl rfl rfl ?_
  refine Q.r ?_; (repeat (intro b1; refine Q.r ?_))
  refine S.y (Y.lk true rfl rfl (fun w => Tryd.zeroValue30 w)) ?_
  cases hz : lkL j.done t with
  | none =>
    dsimp only
    refine Q.r ?_; (repeat (intro b1; refine Q.r ?_))
    exact N.r2 (RV.tmp rfl (RV.tmp rfl RV.nil)) (jur_shut hq rfl) ⟨rfl, rfl⟩
  | some s =>
    dsimp only
    refine Q.r ?_; (repeat (intro b1; refine Q.r ?_))
    exact N.r2 (RV.tmp rfl (RV.tmp rfl RV.nil)) (jur_shut hq rfl) ⟨rfl, rfl⟩
abbrev mailC (m : Int × NA) : List Value := Value.int .i64 m.1 :: m.2.nv.cells
theorem vote_spec (t c : Int) (L : List HP) :
    CallsS Tryd.prog 28 [.int .u64 t, .int .i64 c] L (fun r L' => r = .agg (mailC (voteN t c)).toArray ∧ L' = L) := by
  refine CallsS.of_body Tryd.func28 rfl rfl rfl ?_
  refine Q.r ?_; (repeat (intro b1; refine Q.r ?_))
  exact N.r1 (by apply RV.cellN; rfl; exact RdC.row; rfl; exact RV.nil) (Ent.drop (Ent.refl _)) ⟨rfl, rfl⟩
end Go.Proofs.YtjidejcehmamkaaDoor
/- The juror: intent, taken, above. No condition. -/
namespace Go.Proofs.YtjidejcehmamkaaDoor
open Go Go.SX
attribute [local irreducible] swp opsS thenS blockS retS CallsS St Ent YieldS anyS drawS
abbrev IV.zero : IV := ⟨0, 0, none, 0, []⟩
theorem okI.zero {M : Nat → Option Obj} : okI M IV.zero := ⟨SlM.nil0, fun o ho => by cases ho⟩
set_option maxHeartbeats 1000000 in
theorem intent_spec (M : Nat → Option Obj) (p : Nat) (j : JS) (n : Nat) (t : Int) (L : List HP) (hw : WFK j.v n) (hn : n ≤ 10000) :
    CallsS Tryd.prog 26 [ptrJ p, .int .u64 t] (jurH M p j :: roM M :: L) (fun r L' => ∃ (i : IV) (M' : Nat → Option Obj), r = .tuple #[i.val, .bool (lkL j.v.its t).isSome] ∧ leM M M' ∧ okI M' i ∧ (∀ x, lkL j.v.its t = some x → i.after = x.1 ∧ i.ops.map OV.abs = x.2) ∧ L' = jurH M' p j :: roM M' :: L) := by
  refine CallsS.of_body Tryd.func26 rfl rfl rfl ?_
  refine Q.r ?_; (repeat (intro b1; refine Q.r ?_))
  refine S.cj p rfl (JIntents_spec M p j n _ hw.wf hn) ?_
  rintro _ _ ⟨a, c, es, M', rfl, hl, hs, hok, hp, rfl⟩
  refine Q.r ?_; (repeat (intro b1; refine Q.r ?_))
  have hle : es.length ≤ 10000 := by
    have := hp.length_eq
    rw [List.length_map] at this
    have h2 := hw.wf.il
    omega
  refine swp_cutB (σ := Unit) (fun _ => [(4, .pointer (some ⟨b1, 0, none⟩))]) (fun _ => pt b1 (cl IV.zero.cells 66) :: jurH M' p j :: roM M' :: L) (fun _ => lkL j.v.its t = none) ?_ ?_
  · refine swp_loop (σ := Nat) (fun k => [(1, .int .u64 t), (4, .pointer (some ⟨b1, 0, none⟩)), (9, .slice a es.length c), (10, .int .i64 es.length), (11, .int .i64 k)])
      (fun _ => pt b1 (cl IV.zero.cells 66) :: jurH M' p j :: roM M' :: L) (fun k => k ≤ es.length ∧ ∀ e ∈ es.take k, e.txn ≠ t) (fun k => es.length - k) 0 ⟨rfl, rfl, rfl, rfl, rfl, trivial⟩ (by repeat (first | exact Ent.refl _ | exact Ent.nil | refine Ent.pick ?_ | refine Ent.nilS ?_ | refine Ent.nilM ?_ | refine Ent.drop ?_)) ⟨by omega, by simp⟩ ?_
    rintro k ⟨hk1, hk2⟩
    by_cases hlt : k < es.length
    · obtain ⟨e, he⟩ := mem_get hlt
      have hme : e ∈ es := List.mem_of_getElem? he
      obtain ⟨b, o, rfl, hr⟩ := RdS.elem (g := IV.cells) (fun _ => rfl) (L := pt b1 (cl IV.zero.cells 66) :: jurH M' p j :: roM M' :: L) hs.rd he rfl
      by_cases ht : e.txn = t
      · have hlk : lkL j.v.its t = some (e.after, e.ops.map OV.abs) := (lkL_iff hw.k2).2 (by rw [← ht]; exact hp.mem_iff.1 (List.mem_map_of_mem (f := IV.abs) hme))
        rw [hlk]
        refine Q.r ?_; (repeat (intro b1; refine Q.r ?_))
        exact N.r2 (by apply RV.cellN; rfl; exact RdC.row; rfl; exact RV.tmp rfl RV.nil) (by repeat (first | exact Ent.refl _ | exact Ent.nil | refine Ent.pick ?_ | refine Ent.nilS ?_ | refine Ent.nilM ?_ | refine Ent.drop ?_)) ⟨e, M', rfl, hl, hok e hme, (fun x hx => by cases hx; exact ⟨rfl, rfl⟩), rfl⟩
      · refine Q.r ?_; (repeat (intro b1; refine Q.r ?_))
        refine ⟨k + 1, ⟨rfl, rfl, rfl, rfl, rfl, trivial⟩, by repeat (first | exact Ent.refl _ | exact Ent.nil | refine Ent.pick ?_ | refine Ent.nilS ?_ | refine Ent.nilM ?_ | refine Ent.drop ?_), ⟨by omega, fun x hx => ?_⟩, by omega⟩
        rw [take_snoc he] at hx
        rcases List.mem_append.1 hx with hx | hx
        · exact hk2 x hx
        · rw [List.mem_singleton.1 hx]; exact ht
    · have hke : k = es.length := by omega
      subst hke
      rw [List.take_length] at hk2
      have hlk : lkL j.v.its t = none := lkL_none fun u hu e => by
        obtain ⟨x, hx, rfl⟩ := List.mem_map.1 (hp.mem_iff.2 hu)
        exact hk2 x hx e
      refine Q.r ?_; (repeat (intro b1; refine Q.r ?_))
      exact ⟨(), ⟨rfl, trivial⟩, by repeat (first | exact Ent.refl _ | exact Ent.nil | refine Ent.pick ?_ | refine Ent.nilS ?_ | refine Ent.nilM ?_ | refine Ent.drop ?_), hlk⟩
  · rintro _ h0
    refine Q.r ?_; (repeat (intro b1; refine Q.r ?_))
    rw [h0]
    exact N.r2 (by apply RV.cellN; rfl; exact RdC.row; rfl; exact RV.tmp rfl RV.nil) (by repeat (first | exact Ent.refl _ | exact Ent.nil | refine Ent.pick ?_ | refine Ent.nilS ?_ | refine Ent.nilM ?_ | refine Ent.drop ?_)) ⟨IV.zero, M', rfl, hl, okI.zero, (fun x hx => by cases hx), rfl⟩
theorem taken1_spec (b : Nat) (o x : OV) (A : List HP) : CallsS Tryd.prog 47 ([] ++ [x.val] ++ [.pointer (some ⟨b, 0, none⟩)]) (pt b (cl o.cells 73) :: A) (fun v L' => v = .bool (decide (x.id = o.id)) ∧ L' = pt b (cl o.cells 73) :: A) := by
  refine CallsS.of_body Tryd.func47 rfl rfl rfl ?_
  refine Q.r ?_; (repeat (intro b1; refine Q.r ?_))
  exact N.r1 (RV.tmp rfl RV.nil) (Ent.drop (Ent.refl _)) ⟨rfl, rfl⟩
theorem above1_spec (b : Nat) (e : EV) (x : OV) (A : List HP) : CallsS Tryd.prog 51 ([] ++ [x.val] ++ [.pointer (some ⟨b, 0, none⟩)]) (pt b (cl e.cells 118) :: A) (fun v L' => v = .bool (decide (x.id = e.id)) ∧ L' = pt b (cl e.cells 118) :: A) := by
  refine CallsS.of_body Tryd.func51 rfl rfl rfl ?_
  refine Q.r ?_; (repeat (intro b1; refine Q.r ?_))
  exact N.r1 (RV.tmp rfl RV.nil) (Ent.drop (Ent.refl _)) ⟨rfl, rfl⟩
set_option maxHeartbeats 1000000 in
theorem taken_spec (M : Nat → Option Obj) (p : Nat) (j : JS) (n : Nat) (a0 : Option Addr) (c0 : Nat) (ops : List OV) (L : List HP) (hw : WFK j.v n) (hn : n ≤ 10000) (ho : SlM M a0 ops.length 2 (ops.flatMap OV.cells)) (hol : ops.length ≤ 1000000) :
    CallsS Tryd.prog 29 [ptrJ p, .slice a0 ops.length c0] (jurH M p j :: roM M :: L) (fun r L' => ∃ (M' : Nat → Option Obj), r = .bool (takenV j.v (ops.map OV.abs)) ∧ leM M M' ∧ L' = jurH M' p j :: roM M' :: L) := by
  refine CallsS.of_body Tryd.func29 rfl rfl rfl ?_
  refine Q.r ?_; (repeat (intro b1; refine Q.r ?_))
  refine S.cj p rfl (JIntents_spec M p j n _ hw.wf hn) ?_
  rintro _ _ ⟨a, c, es, M', rfl, hl, hs, hok, hp, rfl⟩
  refine Q.r ?_; (repeat (intro b1; refine Q.r ?_))
  have hle : es.length ≤ 10000 := by
    have := hp.length_eq
    rw [List.length_map] at this
    have h2 := hw.wf.il
    omega
  have hte : takenV j.v (ops.map OV.abs) = es.any fun e => e.ops.any fun o => ops.any fun x => decide (x.id = o.id) := by
    unfold takenV
    rw [← hp.any_eq, List.any_map]
    congr 1; funext e
    rw [show ((fun i : Int × Int × VL => i.2.2.any fun o => holdsV (ops.map OV.abs) o.1) ∘ IV.abs) e = (e.ops.map OV.abs).any fun o => holdsV (ops.map OV.abs) o.1 from rfl, List.any_map]
    congr 1; funext o
    show holdsV (ops.map OV.abs) o.id = _
    rw [holds_abs]
  rw [hte]
  have hopl : ∀ e ∈ es, e.ops.length ≤ 16 := fun e he => by
    have := (hw.wf.io e.abs (hp.mem_iff.1 (List.mem_map_of_mem (f := IV.abs) he))).1
    simpa using this
  refine swp_cutB (σ := Unit) (fun _ => []) (fun _ => jurH M' p j :: roM M' :: L) (fun _ => (es.any fun e => e.ops.any fun o => ops.any fun x => decide (x.id = o.id)) = false) ?_ ?_
  · refine swp_loop (σ := Nat) (fun k => [(1, .slice a0 ops.length c0), (10, .slice a es.length c), (11, .int .i64 es.length), (12, .int .i64 k)])
      (fun _ => jurH M' p j :: roM M' :: L) (fun k => k ≤ es.length ∧ ((es.take k).any fun e => e.ops.any fun o => ops.any fun x => decide (x.id = o.id)) = false) (fun k => es.length - k) 0 ⟨rfl, rfl, rfl, rfl, trivial⟩ (by repeat (first | exact Ent.refl _ | exact Ent.nil | refine Ent.pick ?_ | refine Ent.nilS ?_ | refine Ent.nilM ?_ | refine Ent.drop ?_)) ⟨by omega, by simp⟩ ?_
    rintro k ⟨hk1, hk2⟩
    by_cases hlt : k < es.length
    · obtain ⟨e, he⟩ := mem_get hlt
      have hme : e ∈ es := List.mem_of_getElem? he
      have hel := hopl e hme
      obtain ⟨b, o, hab, hr⟩ := RdS.elem (g := IV.cells) (fun _ => rfl) (L := jurH M' p j :: roM M' :: L) hs.rd he rfl
      rw [hab]
      refine Q.r ?_; (repeat (intro b1; refine Q.r ?_))
      refine swp_loop (σ := Nat) (fun m => [(1, .slice a0 ops.length c0), (10, .slice (some ⟨b, o, none⟩) es.length c), (11, .int .i64 es.length), (12, .int .i64 k), (17, .slice e.a e.ops.length e.c), (18, .int .i64 e.ops.length), (19, .int .i64 m)])
          (fun _ => jurH M' p j :: roM M' :: L) (fun m => m ≤ e.ops.length ∧ ((e.ops.take m).any fun o => ops.any fun x => decide (x.id = o.id)) = false) (fun m => e.ops.length - m) 0 ⟨rfl, rfl, rfl, rfl, rfl, rfl, rfl, trivial⟩ (by repeat (first | exact Ent.refl _ | exact Ent.nil | refine Ent.pick ?_ | refine Ent.nilS ?_ | refine Ent.nilM ?_ | refine Ent.drop ?_)) ⟨by omega, by simp⟩ ?_
      rintro m ⟨hm1, hm2⟩
      by_cases hmt : m < e.ops.length
      · obtain ⟨u, hu⟩ := mem_get hmt
        have hmu : u ∈ e.ops := List.mem_of_getElem? hu
        obtain ⟨bu, ou, hau, hru⟩ := RdS.elem (g := OV.cells) (fun _ => rfl) (L := jurH M' p j :: roM M' :: L) (hok e hme).1.rd hu rfl
        rw [hau]
        refine Q.r ?_; (repeat (intro b1; refine Q.r ?_))
        refine S.y (Y.mf rfl rfl) ?_
        refine S.cr rfl (HasO_spec 47 [] [.pointer (some ⟨b1, 0, none⟩)] (fun x => decide (x.id = u.id)) a0 c0 ops _ (ho.mono hl).rd (by omega) (fun x hx => taken1_spec b1 u x _)) ?_
        rintro _ _ ⟨rfl, rfl⟩
        cases hany : ops.any fun x => decide (x.id = u.id) with
        | true =>
          refine Q.r ?_; (repeat (intro b1; refine Q.r ?_))
          refine N.r1 (RV.tmp rfl RV.nil) (by repeat (first | exact Ent.refl _ | exact Ent.nil | refine Ent.pick ?_ | refine Ent.nilS ?_ | refine Ent.nilM ?_ | refine Ent.drop ?_)) ⟨M', ?_, hl, rfl⟩
          rw [List.any_eq_true.2 ⟨e, hme, List.any_eq_true.2 ⟨u, hmu, hany⟩⟩]
        | false =>
          refine Q.r ?_; (repeat (intro b1; refine Q.r ?_))
          refine ⟨m + 1, ⟨rfl, rfl, rfl, rfl, rfl, rfl, rfl, trivial⟩, by repeat (first | exact Ent.refl _ | exact Ent.nil | refine Ent.pick ?_ | refine Ent.nilS ?_ | refine Ent.nilM ?_ | refine Ent.drop ?_), ⟨by omega, ?_⟩, by omega⟩
          rw [take_snoc hu, List.any_append, hm2, List.any_cons, hany]; rfl
      · have hme2 : m = e.ops.length := by omega
        subst hme2
        rw [List.take_length] at hm2
        refine Q.r ?_; (repeat (intro b1; refine Q.r ?_))
        refine ⟨k + 1, ⟨rfl, rfl, rfl, rfl, trivial⟩, by repeat (first | exact Ent.refl _ | exact Ent.nil | refine Ent.pick ?_ | refine Ent.nilS ?_ | refine Ent.nilM ?_ | refine Ent.drop ?_), ⟨by omega, ?_⟩, by omega⟩
        rw [take_snoc he, List.any_append, hk2, List.any_cons, hm2]; rfl
    · have hke : k = es.length := by omega
      subst hke
      rw [List.take_length] at hk2
      refine Q.r ?_; (repeat (intro b1; refine Q.r ?_))
      exact ⟨(), trivial, by repeat (first | exact Ent.refl _ | exact Ent.nil | refine Ent.pick ?_ | refine Ent.nilS ?_ | refine Ent.nilM ?_ | refine Ent.drop ?_), hk2⟩
  · rintro _ h0
    refine Q.r ?_; (repeat (intro b1; refine Q.r ?_))
    rw [h0]
    exact N.r1 (RV.tmp rfl RV.nil) (by repeat (first | exact Ent.refl _ | exact Ent.nil | refine Ent.pick ?_ | refine Ent.nilS ?_ | refine Ent.nilM ?_ | refine Ent.drop ?_)) ⟨M', rfl, hl, rfl⟩
theorem last_get {vs : List OV} (h : 0 < vs.length) : ∃ u, vs[vs.length - 1]? = some u ∧ lastS (vs.map OV.abs) = u.id := by
  refine ⟨vs[vs.length - 1], List.getElem?_eq_getElem (by omega), ?_⟩
  unfold lastS
  rw [List.getLast?_map, List.getLast?_eq_getElem?, List.getElem?_eq_getElem (by omega)]
  rfl
set_option maxHeartbeats 1000000 in
theorem above_spec (M : Nat → Option Obj) (p : Nat) (j : JS) (n : Nat) (s : Int) (a0 : Option Addr) (c0 : Nat) (ops : List OV) (L : List HP) (hw : WFK j.v n) (hn : n ≤ 10000) (hne : ∀ c ∈ j.v.ch, 0 < c.2.length) (ho : SlM M a0 ops.length 2 (ops.flatMap OV.cells)) (hol : ops.length ≤ 1000000) :
    CallsS Tryd.prog 31 [ptrJ p, .int .u64 s, .slice a0 ops.length c0] (jurH M p j :: roM M :: L) (fun r L' => ∃ (M' : Nat → Option Obj), r = .bool (aboveV j.v s (ops.map OV.abs)) ∧ leM M M' ∧ L' = jurH M' p j :: roM M' :: L) := by
  refine CallsS.of_body Tryd.func31 rfl rfl rfl ?_
  refine Q.r ?_; (repeat (intro b1; refine Q.r ?_))
  refine S.cj p rfl (JDump_spec M p j n _ hw.wf hn) ?_
  rintro _ _ ⟨a, c, es, M', rfl, hl, hs, hok, hp, rfl⟩
  refine Q.r ?_; (repeat (intro b1; refine Q.r ?_))
  have hle : es.length ≤ 160000 := by
    have := hp.length_eq
    rw [List.length_map] at this
    have h2 := hw.wf.cl
    omega
  have hte : aboveV j.v s (ops.map OV.abs) = !es.any fun e => decide (s ≤ lastS (e.vs.map OV.abs)) && ops.any fun x => decide (x.id = e.id) := by
    unfold aboveV
    rw [← hp.any_eq, List.any_map]
    congr 2; funext e
    show (decide (s ≤ lastS (e.vs.map OV.abs)) && holdsV (ops.map OV.abs) e.id) = _
    rw [holds_abs]
  rw [hte]
  have hvl : ∀ e ∈ es, 0 < e.vs.length ∧ e.vs.length ≤ 10000 := fun e he => by
    have hm := hp.mem_iff.1 (List.mem_map_of_mem (f := EV.abs) he)
    have h1 := hne _ hm
    have h2 := (hw.wf.co _ hm).2.1
    simp at h1 h2
    omega
  refine swp_cutB (σ := Unit) (fun _ => []) (fun _ => jurH M' p j :: roM M' :: L) (fun _ => (es.any fun e => decide (s ≤ lastS (e.vs.map OV.abs)) && ops.any fun x => decide (x.id = e.id)) = false) ?_ ?_
  · refine swp_loop (σ := Nat) (fun k => [(1, .int .u64 s), (2, .slice a0 ops.length c0), (11, .slice a es.length c), (12, .int .i64 es.length), (13, .int .i64 k)])
      (fun _ => jurH M' p j :: roM M' :: L) (fun k => k ≤ es.length ∧ ((es.take k).any fun e => decide (s ≤ lastS (e.vs.map OV.abs)) && ops.any fun x => decide (x.id = e.id)) = false) (fun k => es.length - k) 0 ⟨rfl, rfl, rfl, rfl, rfl, trivial⟩ (by repeat (first | exact Ent.refl _ | exact Ent.nil | refine Ent.pick ?_ | refine Ent.nilS ?_ | refine Ent.nilM ?_ | refine Ent.drop ?_)) ⟨by omega, by simp⟩ ?_
    rintro k ⟨hk1, hk2⟩
    by_cases hlt : k < es.length
    · obtain ⟨e, he⟩ := mem_get hlt
      have hme : e ∈ es := List.mem_of_getElem? he
      have hel := hvl e hme
      obtain ⟨b, o, hab, hr⟩ := RdS.elem (g := EV.cells) (fun _ => rfl) (L := jurH M' p j :: roM M' :: L) hs.rd he rfl
      rw [hab]
      obtain ⟨u, hu, hul⟩ := last_get hel.1
      obtain ⟨bu, ou, hau, hru⟩ := RdS.elem (g := OV.cells) (fun _ => rfl) (L := jurH M' p j :: roM M' :: L) (hok e hme).1.rd hu rfl
      have hru0 := hru.head
      by_cases hc : s ≤ u.id
      · repeat (first | refine S.y (Y.ldRj rfl (by first | assumption | exact RdC.sub (by assumption)) rfl) ?_ | refine Q.yn ?_ | refine S.stI rfl rfl (by first | omega | (rw [Array.size_setIfInBounds]; omega)) ?_ | (refine GQ.y ?_; refine Q.y ?_) | refine Q.go ?_ | (refine GQ.g ?_; refine Q.gq ?_) | (refine GQ.s ?_; refine Q.st ?_) | (refine GQ.g ?_; refine Q.gd ?_) | refine Q.ct rfl ?_ | refine Q.cf rfl ?_ | (refine GQ.a ?_; refine Q.al (fun b1 => ?_)))
        rw [hau]
        repeat (first | refine S.y (Y.ldRj rfl (by first | assumption | exact RdC.sub (by assumption)) rfl) ?_ | refine Q.yn ?_ | refine S.stI rfl rfl (by first | omega | (rw [Array.size_setIfInBounds]; omega)) ?_ | (refine GQ.y ?_; refine Q.y ?_) | refine Q.go ?_ | (refine GQ.g ?_; refine Q.gq ?_) | (refine GQ.s ?_; refine Q.st ?_) | (refine GQ.g ?_; refine Q.gd ?_) | refine Q.ct rfl ?_ | refine Q.cf rfl ?_ | (refine GQ.a ?_; refine Q.al (fun b1 => ?_)))
        refine S.y (Y.mf rfl rfl) ?_
        refine Q.r ?_; (repeat (intro b1; refine Q.r ?_))
        refine S.cr rfl (HasO_spec 51 [] [.pointer (some ⟨b1, 0, none⟩)] (fun x => decide (x.id = e.id)) a0 c0 ops _ (ho.mono hl).rd (by omega) (fun x hx => by have := above1_spec b1 e x (jurH M' p j :: roM M' :: L); rw [← hau]; exact this)) ?_
        rintro _ _ ⟨rfl, rfl⟩
        have hce : decide (s ≤ lastS (e.vs.map OV.abs)) = true := by rw [hul]; exact decide_eq_true hc
        cases hany : ops.any fun x => decide (x.id = e.id) with
        | true =>
          refine Q.r ?_; (repeat (intro b1; refine Q.r ?_))
          refine N.r1 (RV.tmp rfl RV.nil) (by repeat (first | exact Ent.refl _ | exact Ent.nil | refine Ent.pick ?_ | refine Ent.nilS ?_ | refine Ent.nilM ?_ | refine Ent.drop ?_)) ⟨M', ?_, hl, rfl⟩
          rw [List.any_eq_true.2 ⟨e, hme, by rw [hce, hany]; rfl⟩]; rfl
        | false =>
          refine Q.r ?_; (repeat (intro b1; refine Q.r ?_))
          refine ⟨k + 1, ⟨rfl, rfl, rfl, rfl, rfl, trivial⟩, by repeat (first | exact Ent.refl _ | exact Ent.nil | refine Ent.pick ?_ | refine Ent.nilS ?_ | refine Ent.nilM ?_ | refine Ent.drop ?_), ⟨by omega, ?_⟩, by omega⟩
          rw [take_snoc he, List.any_append, hk2, List.any_cons, hany, Bool.and_false]; rfl
      · repeat (first | refine S.y (Y.ldRj rfl (by first | assumption | exact RdC.sub (by assumption)) rfl) ?_ | refine Q.yn ?_ | refine S.stI rfl rfl (by first | omega | (rw [Array.size_setIfInBounds]; omega)) ?_ | (refine GQ.y ?_; refine Q.y ?_) | refine Q.go ?_ | (refine GQ.g ?_; refine Q.gq ?_) | (refine GQ.s ?_; refine Q.st ?_) | (refine GQ.g ?_; refine Q.gd ?_) | refine Q.ct rfl ?_ | refine Q.cf rfl ?_ | (refine GQ.a ?_; refine Q.al (fun b1 => ?_)))
        rw [hau]
        repeat (first | refine S.y (Y.ldRj rfl (by first | assumption | exact RdC.sub (by assumption)) rfl) ?_ | refine Q.yn ?_ | refine S.stI rfl rfl (by first | omega | (rw [Array.size_setIfInBounds]; omega)) ?_ | (refine GQ.y ?_; refine Q.y ?_) | refine Q.go ?_ | (refine GQ.g ?_; refine Q.gq ?_) | (refine GQ.s ?_; refine Q.st ?_) | (refine GQ.g ?_; refine Q.gd ?_) | refine Q.ct rfl ?_ | refine Q.cf rfl ?_ | (refine GQ.a ?_; refine Q.al (fun b1 => ?_)))
        have hce : decide (s ≤ lastS (e.vs.map OV.abs)) = false := by rw [hul]; exact decide_eq_false hc
        refine ⟨k + 1, ⟨rfl, rfl, rfl, rfl, rfl, trivial⟩, by repeat (first | exact Ent.refl _ | exact Ent.nil | refine Ent.pick ?_ | refine Ent.nilS ?_ | refine Ent.nilM ?_ | refine Ent.drop ?_), ⟨by omega, ?_⟩, by omega⟩
        rw [take_snoc he, List.any_append, hk2, List.any_cons, hce]; rfl
    · have hke : k = es.length := by omega
      subst hke
      rw [List.take_length] at hk2
      refine Q.r ?_; (repeat (intro b1; refine Q.r ?_))
      exact ⟨(), trivial, by repeat (first | exact Ent.refl _ | exact Ent.nil | refine Ent.pick ?_ | refine Ent.nilS ?_ | refine Ent.nilM ?_ | refine Ent.drop ?_), hk2⟩
  · rintro _ h0
    refine Q.r ?_; (repeat (intro b1; refine Q.r ?_))
    rw [h0]
    exact N.r1 (RV.tmp rfl RV.nil) (by repeat (first | exact Ent.refl _ | exact Ent.nil | refine Ent.pick ?_ | refine Ent.nilS ?_ | refine Ent.nilM ?_ | refine Ent.drop ?_)) ⟨M', rfl, hl, rfl⟩
end Go.Proofs.YtjidejcehmamkaaDoor
