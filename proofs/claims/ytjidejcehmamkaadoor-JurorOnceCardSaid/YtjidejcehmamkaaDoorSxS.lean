/- What was read before the call reads alike behind it, if all the old blocks stayed. No condition. -/
import Derived.Test.YtjidejcehmamkaaDoorSxR
import Derived.ReadAgain
set_option linter.unusedVariables false
set_option linter.unusedSimpArgs false
namespace Go.SX
open Go Go.ChangeShapes Go.RowKit
theorem Kept.cell {W W' : World} (hk : Kept W W') {a : Addr} {v : Value} (h : W.cell? a = some v) : W'.cell? a = some v := by
  unfold World.cell? at h ⊢
  cases hb : W.heap[a.block]? with
  | none => rw [hb] at h; simp at h
  | some o => rw [hk.2.2 _ _ hb]; rw [hb] at h; exact h
theorem Kept.cells {W W' : World} (hk : Kept W W') {base : Nat} {a : Addr} {n : Nat} {cs : List Value} (h : W.cells? base a n = some cs) : W'.cells? base a n = some cs := by
  unfold World.cells? at h ⊢
  split at h
  · rename_i hb
    rw [if_pos hb]
    exact mapM_carry h (fun i y _ _ e => hk.cell e)
  · cases h
section
variable {H : Type} {enc : TypeId × Value → H} {P : Program} {W W' : World} {base : Nat} {spare : Nat → Bool} {held : Bool}
theorem trodStep_kept (hk : Kept W W') {r r' : TypeId → List Value → Option (DataW H × List MemPlace)}
    (hr : ∀ t cs x, r t cs = some x → r' t cs = some x) {t : TypeId} {cs : List Value} {x : DataW H × List MemPlace}
    (h : DataW.trodStep enc P W base spare held r t cs = some x) : DataW.trodStep enc P W' base spare held r' t cs = some x := by
  unfold DataW.trodStep at h ⊢
  split at h
  case h_1 => exact h
  case h_2 => exact h
  case h_3 => exact h
  case h_4 => exact h
  case h_5 => exact h
  case h_6 e a _ =>
    simp only [Option.map_eq_some_iff, Option.bind_eq_some_iff] at h ⊢
    obtain ⟨y, ⟨cs', hc, hy⟩, rfl⟩ := h
    exact ⟨y, ⟨cs', hk.cells hc, hr _ _ _ hy⟩, rfl⟩
  case h_7 => exact h
  case h_8 e a len cap _ =>
    simp only at h ⊢
    split at h
    · rename_i hc
      rw [if_pos hc]
      simp only [Option.map_eq_some_iff, Option.bind_eq_some_iff] at h ⊢
      obtain ⟨elems, he, rest, hrest, rfl⟩ := h
      have one : ∀ (i : Nat) (y : DataW H × List MemPlace), (W.cells? base (a.add (i * P.cellsOf e)) (P.cellsOf e)).bind (r e) = some y → (W'.cells? base (a.add (i * P.cellsOf e)) (P.cellsOf e)).bind (r' e) = some y := by
        intro i y hv
        simp only [Option.bind_eq_some_iff] at hv ⊢
        obtain ⟨cs', hc', hy'⟩ := hv
        exact ⟨cs', hk.cells hc', hr _ _ _ hy'⟩
      refine ⟨elems, mapM_carry he (fun i y _ _ hv => one i y hv), rest, ?_, rfl⟩
      split at hrest
      · rename_i hs
        rw [if_pos hs]
        exact mapM_carry hrest (fun j y _ _ hv => one (len + j) y hv)
      · rename_i hs
        rw [if_neg hs]
        exact hrest
    · cases h
  case h_9 =>
    split at h
    · rename_i hc
      rw [if_pos hc]
      simp only [Option.map_eq_some_iff] at h ⊢
      obtain ⟨xs, hx, rfl⟩ := h
      exact ⟨xs, mapM_carry hx (fun f y _ _ hv => hr _ _ _ hv), rfl⟩
    · cases h
  case h_10 =>
    split at h
    · rename_i hc
      rw [if_pos hc]
      simp only [Option.map_eq_some_iff] at h ⊢
      obtain ⟨xs, hx, rfl⟩ := h
      exact ⟨xs, mapM_carry hx (fun f y _ _ hv => hr _ _ _ hv), rfl⟩
    · cases h
  case h_11 => exact h
  case h_12 =>
    split at h
    · exact h
    · simp only [Option.map_eq_some_iff] at h ⊢
      obtain ⟨q, hq, rfl⟩ := h
      exact ⟨q, hr _ _ _ hq, rfl⟩
    · cases h
  case h_13 => exact h
  case h_14 k e b _ =>
    split at h
    · rename_i es clock hb
      rw [hk.2.2 _ _ hb]
      split at h
      · rename_i hc
        simp only [Option.bind_eq_some_iff] at h
        obtain ⟨entries, he, hd⟩ := h
        split at hd
        · rename_i hris
          have hx := Option.some.inj hd
          subst hx
          simp only [if_pos hc, Option.bind_eq_some_iff]
          refine ⟨entries, mapM_carry he (fun x y _ hy hv => ?_), by simp [hris]⟩
          simp only [Option.bind_eq_some_iff] at hv ⊢
          obtain ⟨key, hk2, hz⟩ := hv
          refine ⟨key, hk2, ?_⟩
          split at hz
          · rename_i hf
            rw [if_pos hf]
            simp only [Option.map_eq_some_iff] at hz ⊢
            obtain ⟨q, hq, rfl⟩ := hz
            exact ⟨q, hr _ _ _ hq, rfl⟩
          · cases hz
        · cases hd
      · cases h
    · cases h
  case h_15 => exact h
  case h_16 => exact h
  case h_17 => exact h
  case h_18 => exact h
  case h_19 => exact h
  case h_20 => exact h
  case h_21 => cases h
theorem trod_kept (hk : Kept W W') : ∀ (n : Nat) (t : TypeId) (cs : List Value) (x : DataW H × List MemPlace),
    DataW.trod enc P W base spare held n t cs = some x → DataW.trod enc P W' base spare held n t cs = some x := by
  intro n
  induction n with
  | zero => intro t cs x h; simp [DataW.trod] at h
  | succ n ih =>
    intro t cs x h
    rw [DataW.trod_step] at h ⊢
    exact trodStep_kept hk ih h
theorem trodAll_kept (hk : Kept W W') : ∀ {ts : List TypeId} {vs : List Value} {ds : List (DataW H)} {ps : List MemPlace}, DataW.TrodAll enc P W base spare held ts vs ds ps → DataW.TrodAll enc P W' base spare held ts vs ds ps
  | [], [], [], _, h => h
  | _ :: _, _ :: _, _ :: _, _, ⟨p, q, ⟨n, h1⟩, h2, e⟩ => ⟨p, q, ⟨n, trod_kept hk n _ _ _ h1⟩, trodAll_kept hk h2, e⟩
end
end Go.SX
