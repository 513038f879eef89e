/- What stays so from step to step of a script. No condition. -/
import Derived.Test.YtdjglpmnfckimaaNetS
import Derived.Test.YtdjglpmnfckimaaSxO
set_option linter.unusedVariables false
set_option linter.unusedSimpArgs false
namespace Go.Proofs.Ytdjglpmnfckimaa
open Go Go.SX
attribute [local irreducible] swp opsS thenS blockS retS CallsS St Ent YieldS anyS drawS
theorem okD.up {k : Nat} {d : DD} (h : okD k d) : okD (k + 1) d := fun s e => by
  have := h s e
  exact ⟨this.1, by omega, by omega, this.2.2.2⟩
theorem okD.er {k : Nat} {d : DD} (h : okD k d) (i : Int) : okD k (erD d i) := fun s e => by
  cases d with
  | none => cases e
  | some s0 =>
    obtain ⟨h1, h2, h3, h4⟩ := h s0 rfl
    have e' : (s0.1, s0.2.1.eraseIdx i.toNat, s0.2.2) = s := by simpa [erD] using e
    subst e'
    obtain ⟨n1, n2, n3, n4, n5⟩ := h1
    have hl := List.length_eraseIdx_le s0.2.1 i.toNat
    exact ⟨⟨n1, n2, n3, fun l hl => n4 l (List.mem_of_mem_eraseIdx hl), by dsimp only; omega⟩, by dsimp only; omega, h3, h4⟩
theorem okD.tk {k : Nat} {d : DD} (h : okD k d) (i : Int) : okD k (tkS d i) := by
  unfold tkS; split
  · exact h.er i
  · exact h
theorem okD.dp {k : Nat} {d : DD} (h : okD k d) (i : Int) : okD k (dpD d i) := by
  unfold dpD; split
  · exact h.er i
  · exact h
theorem agree_nil : agree (List.replicate 256 false) [] := fun c d h1 h2 h3 h4 => by
  unfold spAt
  rw [List.getElem?_replicate]
  split <;> simp
theorem okD.hl {k : Nat} {d : DD} (h : okD k d) : okD k (hlD d) := fun s e => by
  cases d with
  | none => cases e
  | some s0 =>
    obtain ⟨⟨n1, n2, n3, n4, n5⟩, h2, h3, h4⟩ := h s0 rfl
    have e' : (s0.1, s0.2.1, List.replicate 256 false, []) = s := Option.some.inj e
    subst e'
    exact ⟨⟨n1, n2, rep256, n4, n5⟩, h2, by simp, agree_nil⟩
theorem okD.po {k : Nat} {d : DD} (h : okD k d) (ws : List Let) (hw : ws.length ≤ 4) (hk : k ≤ 10000) : okD (k + 1) (poD d ws) := fun s e => by
  cases d with
  | none => cases e
  | some s0 =>
    obtain ⟨⟨n1, n2, n3, n4, n5⟩, h2, h3, h4⟩ := h s0 rfl
    have e' : (s0.1, s0.2.1 ++ ws.filter (fun l => decide (okP s0.1 l.1 l.2.1) && decide (l.2.2.length ≤ 4102)), s0.2.2) = s := by simpa [poD] using e
    subst e'
    have hf := List.length_filter_le (fun l : Let => decide (okP s0.1 l.1 l.2.1) && decide (l.2.2.length ≤ 4102)) ws
    refine ⟨⟨n1, n2, n3, fun l hl => ?_, by dsimp only; rw [List.length_append]; omega⟩, by dsimp only; rw [List.length_append]; omega, by dsimp only; omega, h4⟩
    rcases List.mem_append.1 hl with hl | hl
    · exact n4 l hl
    · have := (List.mem_filter.1 hl).2
      simp only [Bool.and_eq_true, decide_eq_true_eq] at this
      obtain ⟨⟨q1, q2, q3, q4, q5⟩, q6⟩ := this
      exact ⟨q1, q2, q3, q4, q5, q6⟩
theorem okD.sp {k : Nat} {d : DD} (h : okD k d) (x y : Int) (v : Bool) : okD (k + 1) (spD d x y v) := fun s e => by
  cases d with
  | none => cases e
  | some s0 =>
    obtain ⟨⟨n1, n2, n3, n4, n5⟩, h2, h3, h4⟩ := h s0 rfl
    by_cases hp : okP s0.1 x y
    · have e' : (s0.1, s0.2.1, (s0.2.2.1.set (x.toNat * 16 + y.toNat) v).set (y.toNat * 16 + x.toNat) v, splitR s0.2.2.2 x y v) = s := by simpa [spD, hp] using e
      subst e'
      obtain ⟨p1, p2, p3, p4, p5⟩ := hp
      refine ⟨⟨n1, n2, by dsimp only; rw [List.length_set, List.length_set, n3], n4, n5⟩, by dsimp only; omega, ?_, ?_⟩
      · have := List.length_filter_le (fun p => !decide (p = (min x y, max x y))) s0.2.2.2
        dsimp only [splitR]
        rw [List.length_append]
        cases v <;> simp <;> omega
      · intro c d c1 d1 c2 d2
        obtain ⟨x', rfl⟩ := Int.eq_ofNat_of_zero_le p1
        obtain ⟨y', rfl⟩ := Int.eq_ofNat_of_zero_le p2
        obtain ⟨c', rfl⟩ := Int.eq_ofNat_of_zero_le c1
        obtain ⟨d', rfl⟩ := Int.eq_ofNat_of_zero_le d1
        have := spAt_set (sp := s0.2.2.1) (x := x') (y := y') (c := c') (d := d') (v := v) n3 (by omega) (by omega) (by omega) (by omega)
        dsimp only
        rw [Int.toNat_natCast, Int.toNat_natCast, this, h4 c' d' c1 d1 c2 d2]
        by_cases hh : (x' = c' ∧ y' = d') ∨ (x' = d' ∧ y' = c')
        · have e : (min (c' : Int) d', max (c' : Int) d') = (min (x' : Int) y', max (x' : Int) y') := by
            rw [Prod.mk.injEq]; omega
          rw [if_pos hh, e]
          unfold splitR
          generalize (min (x' : Int) y', max (x' : Int) y') = w
          cases v <;> simp
        · have e : ¬ ((min (c' : Int) d', max (c' : Int) d') = (min (x' : Int) y', max (x' : Int) y')) := by
            rw [Prod.mk.injEq]; omega
          rw [if_neg hh]
          unfold splitR
          revert e
          generalize (min (c' : Int) d', max (c' : Int) d') = q
          generalize (min (x' : Int) y', max (x' : Int) y') = w
          intro e9
          have e3 : ∀ l : List (Int × Int), (q ∈ l.filter fun p => !decide (p = w)) ↔ q ∈ l := fun l => by
            rw [List.mem_filter]
            exact ⟨fun h => h.1, fun h => ⟨h, by rw [decide_eq_false e9]; rfl⟩⟩
          have e4 : ∀ l : List (Int × Int), (q ∈ (l.filter fun p => !decide (p = w)) ++ (if v then [w] else [])) ↔ q ∈ l := fun l => by
            rw [List.mem_append, e3]
            cases v
            · simp
            · simp only [if_true, List.mem_singleton]
              exact ⟨fun h => h.elim id fun h => absurd h e9, .inl⟩
          rw [decide_eq_decide, e4]
    · have e' : s0 = s := by simpa [spD, hp] using e
      subst e'
      exact ⟨⟨n1, n2, n3, n4, n5⟩, by omega, by omega, h4⟩
end Go.Proofs.Ytdjglpmnfckimaa
