/- A journal whose power may go: what stays; pure. JournalCrashes. The readings of a journal's script. No condition. -/
import Derived.Test.YtkleenllkjodoaaGreatDoorPk07
set_option linter.unusedVariables false
set_option linter.unusedSimpArgs false
set_option linter.unusedSectionVars false
namespace Go.Proofs.YtkleenllkjodoaaGreatDoor
open Go Go.SX
def ENd (fs : List FE) (n : Nat) (s : List UInt8) (R : List (List UInt8)) (F : Nat) : Prop := n < 100 ∧ okRc R ∧ F ≤ R.length ∧ ∃ lg, GD fs n (stP s, (stP s).length) lg ∧ LG R F lg
section
variable {d : DK} {n F : Nat} {s : List UInt8} {R : List (List UInt8)}
theorem ENd.good (h : ENd d.fs n s R F) : ∀ x ∈ namesD d, goodN x := by
  obtain ⟨hn, _, _, lg, hg, _⟩ := h
  exact hg.good hn
theorem ENd.crash (h : ENd d.fs n s R F) {kf : List UInt8 → Nat} (hk : ∀ u ∈ d.fs, u.2.2 + kf u.1 ≤ u.2.1.length) : ENd (crD d kf).fs n s R F := by
  obtain ⟨hn, hR, hF, lg, hg, hL⟩ := h
  refine ⟨hn, hR, hF, _, hg.crash rfl hk, hL.crash (kf (nm 108 n)) (fun v hv => ?_)⟩
  have h1 := hg.l
  rw [hv] at h1
  exact hk _ (lk_memL h1)
theorem ENd.opened (h : ENd d.fs n s R F) : ENd (opnS d).fs n s R F := by
  obtain ⟨hn, hR, hF, lg, hg, hL⟩ := h
  obtain ⟨lg', h1, h2⟩ := open_GD hn hg hR hF hL
  exact ⟨hn, hR, hF, lg', h1, h2⟩
theorem okRc.take {R : List (List UInt8)} (h : okRc R) (j : Nat) : okRc (R.take j) := fun x hx => h x (List.mem_of_mem_take hx)
theorem ENd.live (h : ENd d.fs n s R F) (hl : live d) : ∃ j, F ≤ j ∧ j ≤ R.length ∧ opnE d = 0 ∧ opB d = some s ∧ opR d = R.take j ∧
    (∀ x ∈ namesD (opnS d), goodN x) ∧ opnE (opnS d) = 0 ∧ opB (opnS d) = some s ∧ opR (opnS d) = R.take j := by
  obtain ⟨hn, hR, hF, lg, hg, hL⟩ := h
  have hu : unP (stP s, (stP s).length).1 = some s := unP_st s
  rcases hL with ⟨rfl, hF0⟩ | ⟨m, f, rfl, h1, h2, h3⟩
  · obtain ⟨o1, o2, o3, o4, _, _⟩ := open_live hl hn hg (fun v hv => by cases hv) (by rw [hu]; simp)
    obtain ⟨p1, p2, p3, p4, _, _⟩ := open_live o2 hn o4 (fun v hv => by cases hv) (by rw [hu]; simp)
    exact ⟨0, by omega, Nat.zero_le _, o1, by rw [hg.sta hn hl.d, hu], o3, o4.good hn, p1, by rw [o4.sta hn o2.d, hu], p3⟩
  · obtain ⟨o1, o2, o3, o4, _, _⟩ := open_live hl hn hg (fun v hv => by cases hv; dsimp only; rw [List.length_take]; omega) (by rw [hu]; simp)
    dsimp only [Option.map_some] at o3 o4
    have hj := cntF_in R m
    have hj2 := cntF_le R m
    have hjF := cntF_ge R m F hF (by omega)
    rw [logF_take hR] at o3 o4
    rw [← frs_len, List.take_take, Nat.min_eq_left hj, ← frs_pre] at o4
    obtain ⟨p1, p2, p3, p4, _, _⟩ := open_live o2 hn o4 (fun v hv => by cases hv; exact Nat.le_refl _) (by rw [hu]; simp)
    dsimp only at p3
    rw [logF_frs (hR.take _)] at p3
    exact ⟨cntF R m, hjF, hj2, o1, by rw [hg.sta hn hl.d, hu], o3, o4.good hn, p1, by rw [o4.sta hn o2.d, hu], p3⟩
end
structure JI (n k : Nat) (lg : Option (List UInt8 × Nat)) (R : List (List UInt8)) (F : Nat) : Prop where
  k : k = R.length
  f : F ≤ R.length
  o : okRc R
  l : (lg = none ∧ R = []) ∨ ∃ f, lg = some (frs R, f) ∧ (frs (R.take F)).length ≤ f ∧ f ≤ (frs R).length ∧ R ≠ []
section
variable {l room : Int} {n k F : Nat} {s s' : List UInt8} {lg : Option (List UInt8 × Nat)} {R : List (List UInt8)}
theorem JI.B (h : JI n k lg R F) : lgB lg = frs R := by
  rcases h.l with ⟨rfl, rfl⟩ | ⟨f, rfl, _⟩ <;> rfl
theorem JI.isS (h : JI n k lg R F) : lg.isSome = decide (0 < k) := by
  rcases h.l with ⟨rfl, hR⟩ | ⟨f, rfl, _, _, hR⟩
  · rw [h.k, hR]; rfl
  · rw [h.k, decide_eq_true (List.length_pos_iff.2 hR)]; rfl
theorem JI.LG (h : JI n k lg R F) : LG R F lg := by
  rcases h.l with ⟨rfl, hR⟩ | ⟨f, rfl, h1, h2, hR⟩
  · exact .inl ⟨rfl, by have := h.f; rw [hR] at this; simpa using this⟩
  · exact .inr ⟨(frs R).length, f, by rw [List.take_length], h1, h2, Nat.le_refl _⟩
theorem fJ_GD (hn : n < 100) (s : List UInt8) (lg : Option (List UInt8 × Nat)) : GD (fJ n s lg) n (stP s, (stP s).length) lg := by
  refine ⟨dJ_key 0 n s lg, fun u hu => ?_, lkJc 0 n s lg, lkJl 0 n s lg⟩
  unfold fJ at hu
  rcases List.mem_cons.1 hu with rfl | hu
  · exact .inr (.inl ⟨n, Nat.le_refl _, rfl⟩)
  · cases lg with
    | none => cases hu
    | some v => rw [List.mem_singleton.1 hu]; exact .inr (.inr ⟨n, hn, rfl⟩)
theorem lkL_app {α : Type} {m : List (List UInt8 × α)} {x y : List UInt8} {a : α} (h : x ≠ y) : lkL (m ++ [(x, a)]) y = lkL m y := by
  induction m with
  | nil => rw [List.nil_append, lkL_cons, if_neg h]
  | cons u m ih =>
    obtain ⟨z, b⟩ := u
    rw [List.cons_append, lkL_cons, lkL_cons, ih]
theorem keys_app {fs : List FE} {x : List UInt8} {v : List UInt8 × Nat} (hk : keysOK fs) (h : ∀ u ∈ fs, u.1 ≠ x) : keysOK (fs ++ [(x, v)]) := by
  unfold keysOK at hk ⊢
  rw [List.map_append]
  refine List.nodup_append.2 ⟨hk, by simp, fun a ha b hb => ?_⟩
  obtain ⟨u, hu, rfl⟩ := List.mem_map.1 ha
  simp at hb
  rw [hb]
  exact h u hu
theorem fJt_GD (hn : n < 100) (b : List UInt8) (f : Nat) : GD (fJ n s lg ++ [(tN, b, f)]) n (stP s, (stP s).length) lg := by
  have h := fJ_GD hn s lg
  refine ⟨keys_app h.key (fJ_t n s lg), fun u hu => ?_, by rw [lkL_app (t_nm n)]; exact h.c, by rw [lkL_app (t_nm' n)]; exact h.l⟩
  rcases List.mem_append.1 hu with hu | hu
  · exact h.na u hu
  · rw [List.mem_singleton.1 hu]; exact .inl rfl
theorem fJc_GD (hn : n + 1 < 100) : GD (fJ n s lg ++ [(nm 99 (n + 1), stP s', (stP s').length)]) (n + 1) (stP s', (stP s').length) none := by
  have h := fJ_GD (show n < 100 by omega) s lg
  refine ⟨keys_app h.key (fJ_c hn s lg), fun u hu => ?_, lkL_mid (fJ_c hn s lg), ?_⟩
  · rcases List.mem_append.1 hu with hu | hu
    · rcases h.na u hu with e | ⟨j, hj, e⟩ | ⟨j, hj, e⟩
      · exact .inl e
      · exact .inr (.inl ⟨j, by omega, e⟩)
      · exact .inr (.inr ⟨j, hj, e⟩)
    · rw [List.mem_singleton.1 hu]; exact .inr (.inl ⟨n + 1, Nat.le_refl _, rfl⟩)
  · rw [lkL_app (nm_ne _ _)]
    refine lkL_none fun u hu => ?_
    unfold fJ at hu
    rcases List.mem_cons.1 hu with rfl | hu
    · exact nm_ne _ _
    · cases lg with
      | none => cases hu
      | some v =>
        rw [List.mem_singleton.1 hu]
        intro e
        have := (nm_inj (show n < 100 by omega) hn e).2
        omega
theorem JI.EN0 (h : JI n k lg R F) (hn : n < 100) (s : List UInt8) : ENd (fJ n s lg) n s R F := ⟨hn, h.o, h.f, lg, fJ_GD hn s lg, h.LG⟩
theorem JI.ENt (h : JI n k lg R F) (hn : n < 100) (b : List UInt8) (f : Nat) : ENd (fJ n s lg ++ [(tN, b, f)]) n s R F := ⟨hn, h.o, h.f, lg, fJt_GD hn b f, h.LG⟩
theorem ENc (hn : n + 1 < 100) : ENd (fJ n s lg ++ [(nm 99 (n + 1), stP s', (stP s').length)]) (n + 1) s' [] 0 := ⟨hn, (fun x hx => by cases hx), Nat.le_refl _, none, fJc_GD hn, .inl ⟨rfl, rfl⟩⟩
theorem JI.new (n : Nat) : JI n 0 none [] 0 := ⟨rfl, Nat.le_refl _, (fun x hx => by cases hx), .inl ⟨rfl, rfl⟩⟩
theorem put_step (h : JI n k lg R F) (hn : n < 100) (rs : List (List UInt8)) :
    (ptE ⟨⟨l, false, room, fJ n s lg⟩, n, k, false⟩ rs = 9 ∧ ptS ⟨⟨l, false, room, fJ n s lg⟩, n, k, false⟩ rs = ⟨⟨0, true, room, fJ n s lg⟩, n, k, true⟩) ∨
    (ptE ⟨⟨l, false, room, fJ n s lg⟩, n, k, false⟩ rs = dpE room s R rs ∧ ptE ⟨⟨l, false, room, fJ n s lg⟩, n, k, false⟩ rs ≠ 9 ∧ ∃ l' k' lg', (-1 ≤ l → -1 ≤ l') ∧ l' ≤ max l (-1) ∧ ptS ⟨⟨l, false, room, fJ n s lg⟩, n, k, false⟩ rs = ⟨⟨l', false, room, fJ n s lg'⟩, n, k', false⟩ ∧ JI n k' lg' (if dpE room s R rs = 0 then R ++ rs else R) F) := by
  by_cases hc : ptC rs ≠ 0 ∨ rs = []
  · right
    obtain ⟨h1, h2⟩ := put_no (s := ⟨⟨l, false, room, fJ n s lg⟩, n, k, false⟩) rfl hc
    have hd : dpE room s R rs = ptC rs := by
      unfold dpE
      by_cases h0 : ptC rs = 0
      · rw [if_neg (by rw [h0]; decide), if_pos (by rcases hc with hc | hc; exact absurd h0 hc; exact hc), h0]
      · rw [if_pos h0]
    refine ⟨by rw [h1, hd], ?_, l, k, lg, id, by omega, h2, ?_⟩
    · rw [h1]
      unfold ptC cdL
      split
      · decide
      · split <;> decide
    · rw [hd]
      by_cases h0 : ptC rs = 0
      · rw [if_pos h0]
        rcases hc with hc | hc
        · exact absurd h0 hc
        · rw [hc, List.append_nil]; exact h
      · rw [if_neg h0]; exact h
  · have hc0 : ptC rs = 0 := Classical.byContradiction fun hh => hc (.inl hh)
    have hr : rs ≠ [] := fun hh => hc (.inr hh)
    by_cases hl : l = 0
    · left
      subst hl
      refine ⟨?_, ?_⟩
      · unfold ptE; dsimp only; rw [if_neg (by decide), if_neg (by rw [hc0]; decide), if_neg hr, wr0E]
      · unfold ptS; dsimp only; rw [if_neg (by decide), if_neg (by rw [hc0]; decide), if_neg hr, wr0E, wr0S]; rfl
    · right
      have hd : dpE room s R rs = if room < ((stP s).length + (frs R).length : Nat) + ((frs rs).length : Nat) then 8 else 0 := by unfold dpE; rw [if_neg (by rw [hc0]; decide), if_neg hr]
      have hE : ptE ⟨⟨l, false, room, fJ n s lg⟩, n, k, false⟩ rs = if room < ((stP s).length + (frs R).length : Nat) + ((frs rs).length : Nat) then 8 else 0 := by
        unfold ptE; dsimp only; rw [if_neg (by decide), if_neg (by rw [hc0]; decide), if_neg hr, wr1E hl, fJ_used, h.B]
      have hdn : (-1 ≤ l → -1 ≤ dn l) ∧ dn l ≤ max l (-1) := by unfold dn; omega
      by_cases hf : room < ((stP s).length + (frs R).length : Nat) + ((frs rs).length : Nat)
      · rw [if_pos hf] at hd hE
        refine ⟨by rw [hE, hd], by rw [hE]; decide, dn l, k, lg, hdn.1, hdn.2, ?_, by rw [hd, if_neg (by decide)]; exact h⟩
        unfold ptS; dsimp only
        rw [if_neg (by decide), if_neg (by rw [hc0]; decide), if_neg hr, wr8S hl _ (by rw [fJ_used, h.B]; exact hf), wr1E hl, fJ_used, h.B, if_pos hf]; rfl
      · rw [if_neg hf] at hd hE
        refine ⟨by rw [hE, hd], by rw [hE]; decide, dn l, k + rs.length, some (lgB lg ++ frs rs, lgF lg), hdn.1, hdn.2, ?_, ?_⟩
        · unfold ptS; dsimp only
          rw [if_neg (by decide), if_neg (by rw [hc0]; decide), if_neg hr, wr1S hl _ (by rw [fJ_used, h.B]; exact hf), wr1E hl, fJ_used, h.B, if_neg hf]
          rw [show lkL (fJ n s lg) (nm 108 n) = lg from lkJl room n s lg, show ∀ v, putL (fJ n s lg) (nm 108 n) v = fJ n s (some v) from putJl room n s lg, ← h.B]; rfl
        · rw [hd, if_pos rfl]
          have hrs := ptC_okRc hc0
          refine ⟨by rw [h.k, List.length_append], by have := h.f; rw [List.length_append]; omega, fun x hx => ?_, .inr ⟨lgF lg, by rw [h.B, frs_app], ?_, ?_, by simp [hr]⟩⟩
          · rcases List.mem_append.1 hx with hx | hx
            · exact h.o x hx
            · exact hrs x hx
          · rw [List.take_append_of_le_length h.f]
            rcases h.l with ⟨rfl, rfl⟩ | ⟨f, rfl, h1, _⟩
            · simp [frs]
            · exact h1
          · rw [frs_app, List.length_append]
            rcases h.l with ⟨rfl, rfl⟩ | ⟨f, rfl, _, h2, _⟩
            · exact Nat.zero_le _
            · show f ≤ _; omega
theorem force_step (h : JI n k lg R F) :
    (foceE ⟨⟨l, false, room, fJ n s lg⟩, n, k, false⟩ = 9 ∧ foceS ⟨⟨l, false, room, fJ n s lg⟩, n, k, false⟩ = ⟨⟨0, true, room, fJ n s lg⟩, n, k, true⟩) ∨
    (foceE ⟨⟨l, false, room, fJ n s lg⟩, n, k, false⟩ = 0 ∧ ∃ l' lg', (-1 ≤ l → -1 ≤ l') ∧ l' ≤ max l (-1) ∧ foceS ⟨⟨l, false, room, fJ n s lg⟩, n, k, false⟩ = ⟨⟨l', false, room, fJ n s lg'⟩, n, k, false⟩ ∧ JI n k lg' R R.length) := by
  by_cases hk : k = 0
  · right
    have hR : R = [] := List.length_eq_zero_iff.1 (by rw [← h.k]; exact hk)
    refine ⟨by unfold foceE; dsimp only; rw [if_neg (by decide), if_pos hk], l, lg, id, by omega, by unfold foceS; dsimp only; rw [if_neg (by decide), if_pos hk], ?_⟩
    have := h
    refine ⟨h.k, Nat.le_refl _, h.o, ?_⟩
    rcases h.l with h1 | ⟨f, _, _, _, h2⟩
    · exact .inl h1
    · exact absurd hR h2
  · rcases h.l with ⟨_, hR⟩ | ⟨f, rfl, h1, h2, hR⟩
    · exact absurd (by rw [h.k, hR]; rfl) hk
    have hlk : lkL (fJ n s (some (frs R, f))) (nm 108 n) = some (frs R, f) := lkJl room n s (some (frs R, f))
    by_cases hl : l = 0
    · left
      subst hl
      exact ⟨by unfold foceE; dsimp only; rw [if_neg (by decide), if_neg hk, fm0E], by unfold foceS; dsimp only; rw [if_neg (by decide), if_neg hk, fm0E, fm0S]; rfl⟩
    · right
      have hE := fm1E hl (room := room) (fs := fJ n s (some (frs R, f))) (n := nm 108 n) (by rw [hlk]; simp)
      have hS := fm1S hl (room := room) (fs := fJ n s (some (frs R, f))) (n := nm 108 n) (by rw [hlk]; simp)
      have hdn : (-1 ≤ l → -1 ≤ dn l) ∧ dn l ≤ max l (-1) := by unfold dn; omega
      refine ⟨by unfold foceE; dsimp only; rw [if_neg (by decide), if_neg hk, hE], dn l, some (frs R, (frs R).length), hdn.1, hdn.2, ?_, h.k, Nat.le_refl _, h.o, .inr ⟨_, rfl, by rw [List.take_length]; exact Nat.le_refl _, Nat.le_refl _, hR⟩⟩
      unfold foceS; dsimp only
      rw [if_neg (by decide), if_neg hk, hE, hS, hlk, show ∀ v, putL (fJ n s (some (frs R, f))) (nm 108 n) v = fJ n s (some v) from putJl room n s (some (frs R, f))]; rfl
theorem save_step (h : JI n k lg R F) (hn : n + 1 < 100) (hl : -1 ≤ l) :
    (savE ⟨⟨l, false, room, fJ n s lg⟩, n, k, false⟩ s' = 9 ∧ ∃ d' n' k', savS ⟨⟨l, false, room, fJ n s lg⟩, n, k, false⟩ s' = ⟨d', n', k', true⟩ ∧ n' ≤ n + 1 ∧ (ENd d'.fs n s R F ∨ (dsE room s R s' = 0 ∧ ENd d'.fs (n + 1) s' [] 0))) ∨
    (savE ⟨⟨l, false, room, fJ n s lg⟩, n, k, false⟩ s' = dsE room s R s' ∧ savE ⟨⟨l, false, room, fJ n s lg⟩, n, k, false⟩ s' ≠ 9 ∧
      ((dsE room s R s' = 0 ∧ ∃ l', -1 ≤ l' ∧ l' ≤ max l (-1) ∧ savS ⟨⟨l, false, room, fJ n s lg⟩, n, k, false⟩ s' = ⟨⟨l', false, room, fJ (n + 1) s' none⟩, n + 1, 0, false⟩) ∨
       (dsE room s R s' ≠ 0 ∧ ∃ l', -1 ≤ l' ∧ l' ≤ max l (-1) ∧ savS ⟨⟨l, false, room, fJ n s lg⟩, n, k, false⟩ s' = ⟨⟨l', false, room, fJ n s lg⟩, n, k, false⟩))) := by
  by_cases h0 : l = 0
  · subst h0
    obtain ⟨e1, e2⟩ := save_0 (room := room) (n := n) (k := k) (s := s) (s' := s') (lg := lg)
    exact .inl ⟨e1, _, _, _, e2, by omega, .inl (h.EN0 (by omega) s)⟩
  by_cases hf : room < ((stP s).length + (frs R).length : Nat) + ((stP s').length : Nat)
  · have hd : dsE room s R s' = 8 := if_pos hf
    obtain ⟨e1, e2⟩ := save_8 (n := n) (k := k) (s := s) (s' := s') (lg := lg) h0 (by rw [h.B]; exact hf)
    exact .inr ⟨by rw [e1, hd], by rw [e1]; decide, .inr ⟨by rw [hd]; decide, dn l, by unfold dn; omega, by unfold dn; omega, e2⟩⟩
  · have hd : dsE room s R s' = 0 := if_neg hf
    have hf' : ¬ room < (((stP s).length + (lgB lg).length : Nat) : Int) + (stP s').length := by rw [h.B]; exact hf
    by_cases h1 : l = 1
    · subst h1
      obtain ⟨e1, e2⟩ := save_1 (n := n) (k := k) hf'
      exact .inl ⟨e1, _, _, _, e2, by omega, .inl (h.ENt (by omega) _ _)⟩
    by_cases h2 : l = 2
    · subst h2
      obtain ⟨e1, e2⟩ := save_2 (n := n) (k := k) hf'
      exact .inl ⟨e1, _, _, _, e2, by omega, .inl (h.ENt (by omega) _ _)⟩
    by_cases h3 : l = 3
    · subst h3
      obtain ⟨e1, e2⟩ := save_3 (n := n) (k := k) hf'
      exact .inl ⟨e1, _, _, _, e2, by omega, .inr ⟨hd, ENc hn⟩⟩
    · obtain ⟨e1, e2⟩ := save_k (l := l) (k := k) hn h.isS h0 (by unfold dn; omega) (by unfold dn; omega) (by unfold dn; omega) hf'
      exact .inr ⟨by rw [e1, hd], by rw [e1]; decide, .inl ⟨hd, _, by unfold dn; omega, by unfold dn; omega, e2⟩⟩
end
end Go.Proofs.YtkleenllkjodoaaGreatDoor
namespace Go.Proofs.YtkleenllkjodoaaGreatDoor
open Go Go.SX
attribute [local irreducible] swp opsS thenS blockS retS CallsS St Ent YieldS anyS drawS
theorem Put_br (q p n k : Nat) (v : Value) (L : List HP) : CallsS Tryz.prog 13 [ptrD q, v] (jnP q p n k true :: L) (fun r L' => r = .int .i64 10 ∧ L' = jnP q p n k true :: L) := by
  refine CallsS.of_body Tryz.func13 rfl rfl rfl ?_
  refine Q.r ?_; (repeat (intro b1; refine Q.r ?_))
  refine S.cr rfl (closed_spec q p n k true _) ?_
  rintro _ _ ⟨rfl, rfl⟩
  rw [if_pos rfl]
  refine Q.r ?_; (repeat (intro b1; refine Q.r ?_))
  exact N.r1 (RV.tmp rfl RV.nil) (Ent.refl _) ⟨rfl, rfl⟩
theorem Force_br (q p n k : Nat) (L : List HP) : CallsS Tryz.prog 29 [ptrD q] (jnP q p n k true :: L) (fun r L' => r = .int .i64 10 ∧ L' = jnP q p n k true :: L) := by
  refine CallsS.of_body Tryz.func29 rfl rfl rfl ?_
  refine Q.r ?_; (repeat (intro b1; refine Q.r ?_))
  refine S.cr rfl (closed_spec q p n k true _) ?_
  rintro _ _ ⟨rfl, rfl⟩
  rw [if_pos rfl]
  refine Q.r ?_; (repeat (intro b1; refine Q.r ?_))
  exact N.r1 (RV.tmp rfl RV.nil) (Ent.refl _) ⟨rfl, rfl⟩
theorem Save_br (q p n k : Nat) (v : Value) (L : List HP) : CallsS Tryz.prog 30 [ptrD q, v] (jnP q p n k true :: L) (fun r L' => r = .int .i64 10 ∧ L' = jnP q p n k true :: L) := by
  refine CallsS.of_body Tryz.func30 rfl rfl rfl ?_
  refine Q.r ?_; (repeat (intro b1; refine Q.r ?_))
  refine S.cr rfl (closed_spec q p n k true _) ?_
  rintro _ _ ⟨rfl, rfl⟩
  rw [if_pos rfl]
  refine Q.r ?_; (repeat (intro b1; refine Q.r ?_))
  exact N.r1 (RV.tmp rfl RV.nil) (Ent.refl _) ⟨rfl, rfl⟩
theorem Open_any (p : Nat) (d : DK) (M : Nat → Option Obj) (L : List HP) (hE : ErrM M) (hT : NibM M) (hg : ∀ n ∈ namesD d, goodN n) :
    CallsS Tryz.prog 14 [ptrD p] (diskH p d :: roM M :: L) (fun _ L' => ∃ M', leM M M' ∧ L' = diskH p (opnS d) :: roM M' :: L) := by
  refine (Open_spec p d M L hE hT hg).post fun r L' h => ?_
  obtain ⟨M', hl, ⟨_, _, rfl⟩ | ⟨_, q, sv, a, c, vs, _, _, _, _, _, _, _, _, rfl⟩⟩ := h
  · exact EntX.done ⟨M', hl, rfl⟩
  · exact EntX.ent (Ent.drop (Ent.refl _)) (EntX.done ⟨M', hl, rfl⟩)
theorem Open_liv (p : Nat) (d : DK) (M : Nat → Option Obj) (L : List HP) (hE : ErrM M) (hT : NibM M) (hg : ∀ n ∈ namesD d, goodN n) (h0 : opnE d = 0) :
    CallsS Tryz.prog 14 [ptrD p] (diskH p d :: roM M :: L) (fun r L' => ∃ (q : Nat) (sv : YB) (a : Option Addr) (c : Nat) (vs : List YB) (M' : Nat → Option Obj), r = .tuple #[ptrD q, .agg #[sv.val, .slice a vs.length c], .int .i64 0] ∧ some sv.bs = opB d ∧ okYM M' sv ∧ vs.map YB.bs = opR d ∧ okYs M' vs ∧ SlM M' a vs.length 1 (vs.flatMap YB.cells) ∧ leM M M' ∧ L' = diskH p (opnS d) :: roM M' :: L) := by
  refine (Open_spec p d M L hE hT hg).post fun r L' h => ?_
  obtain ⟨M', hl, ⟨h1, _⟩ | ⟨_, q, sv, a, c, vs, rfl, h2, h3, _, h4, h5, h6, _, rfl⟩⟩ := h
  · exact absurd h0 h1
  · exact EntX.ent (Ent.drop (Ent.refl _)) (EntX.done ⟨q, sv, a, c, vs, M', rfl, h2, h3, h4, h5, h6, hl, rfl⟩)
structure JO where
  d : Nat
  a : Option Addr
  c : Nat
  vs : List YB
  k : Int
abbrev JO.cells (o : JO) : List Value := [.int .u8 o.d, .slice o.a o.vs.length o.c, .int .i64 o.k]
structure JO.ok (M : Nat → Option Obj) (o : JO) : Prop where
  v : SlM M o.a o.vs.length 1 (o.vs.flatMap YB.cells)
  w : okYs M o.vs
  l : o.vs.length ≤ 9223372036854775807
theorem JO.ok.mono {M M' : Nat → Option Obj} {o : JO} (h : o.ok M) (hl : leM M M') : o.ok M' := ⟨h.v.mono hl, h.w.mono hl, h.l⟩
abbrev ENx (fs : List FE) (x : DJ) : Prop := ENd fs x.n x.s.bs x.R x.f
structure OutA (T : JZ) (z : DJ) : Prop where
  n : T.n = z.n
  br : T.br = false
  d : ∃ l lg, -1 ≤ l ∧ T.d = ⟨l, false, 65536, fJ z.n z.s.bs lg⟩ ∧ JI z.n T.k lg z.R z.f
structure OutC (i : Nat) (T : JZ) (x z : DJ) (e f : Int) : Prop where
  n : T.n ≤ i + 1
  zn : z.n ≤ i + 1
  o : (e ≠ 9 ∧ e = f ∧ OutA T z) ∨ (e = 9 ∧ T.br = true ∧ (ENx T.d.fs x ∨ ENx T.d.fs z))
theorem swp_dj (b : Nat) {P : Program} {n : Nat} {cd : Code} {Q : Post} {f : Env} {L L0 L1 : List HP} {M : Nat → Option Obj} {x : DJ} {room : Int} [h : Pick (djP b x room) L L0] [h1 : PickM L0 M L1] (hk : ∀ M', leM M M' → djM M' b x room → swp P n cd Q f (roM M' :: L1)) : swp P n cd Q f L :=
  swp_absR (h := h) b (Nat.le_refl _) rfl hk
set_option maxHeartbeats 16000000 in
theorem JournalCrashes_spec (ao : Option Addr) (co : Nat) (os : List JO) (arm again : Nat) (ak : Option Addr) (ck : Nat) (ks : List Int) (M : Nat → Option Obj) (L : List HP)
    (ho : SlM M ao os.length 3 (os.flatMap JO.cells)) (hoo : ∀ o ∈ os, o.ok M) (hol : os.length ≤ 9223372036854775807) (ha : arm ≤ 255) (hag : again ≤ 255) (hk : SlM M ak ks.length 1 (ks.map I64)) (hkc : ks.length ≤ ck) (hE : ErrM M) (hT : NibM M) :
    CallsS Tryz.prog 6 [.slice ao os.length co, .int .u8 arm, .int .u8 again, .slice ak ks.length ck] (roM M :: L) (fun v _ => v = .bool true) := by
  refine CallsS.of_body Tryz.func6 rfl rfl rfl ?_
  refine Q.r ?_; (repeat (intro b1; refine Q.r ?_))
  refine S.cr rfl (awakeJ_spec M _ hE hT) ?_
  rintro _ _ ⟨rfl, M1, hl1, rfl⟩
  have hE1 := hE.mono hl1
  have hT1 := hT.mono hl1
  refine Q.r ?_; (repeat (intro b1; refine Q.r ?_))
  refine S.cvj (t0 := 5) rfl rfl (fun M2 hl2 hs2 => ?_)
  generalize b1 = bs at *
  have hT2 := hT1.mono hl2
  have hE2 := hE1.mono hl2
  refine Q.r ?_; (repeat (intro b1; refine Q.r ?_))
  have hst := stP_len [115]
  have hst2 : (stP [115]).length ≤ 13 := by simpa using hst
  have hfit : ¬ (65536 : Int) < ((stP (YB.bs ⟨some ⟨bs, 0, none⟩, 1, [115]⟩)).length : Nat) := by dsimp only; omega
  refine S.cr rfl (begin_spec 65536 ⟨some ⟨bs, 0, none⟩, 1, [115]⟩ M2 _ (by decide) hs2 (Nat.le_refl _) (Nat.le_of_ble_eq_true rfl) hE2 hT2) ?_
  rintro _ _ ⟨M3, hl3, ⟨hx, _⟩ | ⟨_, q, p, bx0, rfl, rfl⟩⟩
  · exact absurd hx hfit
  refine Q.r ?_; (repeat (intro b1; refine Q.r ?_))
  refine S.y (Y.rem rfl rfl (by decide)) ?_
  rw [show Int.tmod (arm : Int) 40 = ((arm % 40 : Nat) : Int) from rfl]
  refine S.y (Y.cvi rfl) ?_
  rw [wrap64 (by omega)]
  refine S.ck p rfl (Arm_spec p _ _ _ (by omega)) ?_
  rintro _ _ ⟨rfl, rfl⟩
  obtain ⟨x0, hx0⟩ : ∃ x0 : DJ, x0 = ⟨0, ⟨some ⟨bs, 0, none⟩, 1, [115]⟩, none, 0, [], 0, false⟩ := ⟨_, rfl⟩
  obtain ⟨l0, hl0⟩ : ∃ l0 : Int, l0 = max ((arm % 40 : Nat) : Int) (-1) := ⟨_, rfl⟩
  rw [show ({ dJ 65536 0 (YB.bs ⟨some ⟨bs, 0, none⟩, 1, [115]⟩) none with left := max ((arm % 40 : Nat) : Int) (-1) } : DK) = ⟨l0, false, 65536, fJ x0.n x0.s.bs none⟩ by rw [hl0, hx0]; rfl]
  refine Q.r ?_; (repeat (intro b1; refine Q.r ?_))
  refine swp_dj bx0 (x := ⟨0, ⟨some ⟨bs, 0, none⟩, 1, [115]⟩, none, 0, [], 0, false⟩) (room := 65536) (fun M4 hl4 hdj => ?_)
  have hl14 := hl2.trans (hl3.trans hl4)
  rw [← hx0] at hdj
  have hx0k : x0.ok M4 := by rw [hx0]; exact ⟨SlM.mono hs2 (hl3.trans hl4), Nat.le_refl _, by simp, SlM.nil, (fun v hv => by cases hv), Nat.le_refl _, Nat.zero_le _⟩
  refine swp_ent (L' := jnP q p x0.n 0 false :: diskH p ⟨l0, false, 65536, fJ x0.n x0.s.bs none⟩ :: roM M4 :: L) (by rw [show jnP q p x0.n 0 false = jnP q p 0 0 false by rw [hx0]]; repeat (first | exact Ent.refl _ | exact Ent.nil | refine Ent.pick ?_ | refine Ent.nilS ?_ | refine Ent.nilM ?_ | refine Ent.drop ?_)) ?_
  have hJ0 : JI x0.n 0 none x0.R x0.f := by rw [hx0]; exact JI.new 0
  refine swp_cutB (σ := DK × DJ × DJ × Nat × Nat × (Nat → Option Obj)) (fun s => [(2, .int .u8 again), (3, .slice ak ks.length ck), (10, ptrD p), (11, ptrD s.2.2.2.1), (12, ptrD s.2.2.2.2.1)])
    (fun s => diskH p s.1 :: roM s.2.2.2.2.2 :: L) (fun s => s.2.1.ok s.2.2.2.2.2 ∧ s.2.2.1.ok s.2.2.2.2.2 ∧ djM s.2.2.2.2.2 s.2.2.2.1 s.2.1 65536 ∧ djM s.2.2.2.2.2 s.2.2.2.2.1 s.2.2.1 65536 ∧ (ENx s.1.fs s.2.1 ∨ ENx s.1.fs s.2.2.1) ∧ leM M4 s.2.2.2.2.2) ?_ ?_
  · refine swp_loop (σ := Nat × Nat × Int × Option (List UInt8 × Nat) × DJ × Nat × (Nat → Option Obj)) (fun s => [(2, .int .u8 again), (3, .slice ak ks.length ck), (9, ptrD q), (10, ptrD p), (42, .slice ao os.length co), (43, .int .i64 os.length), (44, .int .i64 s.1), (11, ptrD s.2.2.2.2.2.1), (12, ptrD s.2.2.2.2.2.1)])
      (fun s => jnP q p s.2.2.2.2.1.n s.2.1 false :: diskH p ⟨s.2.2.1, false, 65536, fJ s.2.2.2.2.1.n s.2.2.2.2.1.s.bs s.2.2.2.1⟩ :: roM s.2.2.2.2.2.2 :: L)
      (fun s => s.1 ≤ os.length ∧ s.1 ≤ 40 ∧ -1 ≤ s.2.2.1 ∧ s.2.2.2.2.1.n ≤ s.1 ∧ JI s.2.2.2.2.1.n s.2.1 s.2.2.2.1 s.2.2.2.2.1.R s.2.2.2.2.1.f ∧ s.2.2.2.2.1.ok s.2.2.2.2.2.2 ∧ djM s.2.2.2.2.2.2 s.2.2.2.2.2.1 s.2.2.2.2.1 65536 ∧ leM M4 s.2.2.2.2.2.2) (fun s => os.length - s.1)
      (0, 0, l0, none, x0, bx0, M4) ⟨rfl, rfl, rfl, rfl, rfl, rfl, rfl, rfl, rfl, trivial⟩ (Ent.refl _) ⟨Nat.zero_le _, Nat.zero_le _, by dsimp only; omega, by dsimp only; rw [hx0]; exact Nat.le_refl _, hJ0, hx0k, hdj, leM.refl _⟩ ?_
    clear hJ0 hx0k hdj hx0 hl0
    rintro ⟨i, k, l, lg, x, bx, M5⟩ ⟨hi, hi40, hll, hxn, hJ, hxk, hdj, hl5⟩
    dsimp only at hi hi40 hll hxn hJ hxk hdj hl5 ⊢
    by_cases hlt : i < os.length
    · obtain ⟨o, hov⟩ := mem_get hlt
      obtain ⟨b, oo, rfl, hr⟩ := SlM.cm (g := JO.cells) (fun _ => rfl) ((ho.mono hl1).mono (hl14.trans hl5)) hov rfl
      have hom := ((hoo o (List.mem_of_getElem? hov)).mono hl1).mono (hl14.trans hl5)
      by_cases hi39 : i < 40
      · have hi39' : ¬ (40 : Int) ≤ (i : Int) := by omega
        refine Q.r ?_; (repeat (intro b1; refine Q.r ?_))
        refine opsS_ent (L' := roM M5 :: pt b1 (cl [.int .u8 o.d, .slice o.a o.vs.length o.c, .int .i64 o.k] 62) :: jnP q p x.n k false :: diskH p ⟨l, false, 65536, fJ x.n x.s.bs lg⟩ :: L) (by repeat (first | exact Ent.refl _ | exact Ent.nil | refine Ent.pick ?_ | refine Ent.nilS ?_ | refine Ent.nilM ?_ | refine Ent.drop ?_)) ?_
        refine S.cr rfl (Few6_spec o.a o.c o.vs 4 300 M5 _ hom.v hom.w (by decide) (by decide) hom.l) ?_
        rintro _ _ ⟨a4, c4, rfl, us, M6, hus, huo, hl6, rfl⟩
        rw [← hus, List.length_map]
        obtain ⟨hu1, hu2⟩ := few_len hus
        refine opsS_absc a4 (fun M7 hl7 hs7 hc7 => ?_)
        have huo7 := huo.mono hl7
        have hl57 := hl6.trans hl7
        refine Q.r ?_; (repeat (intro b1; refine Q.r ?_))
        refine opsS_ent (L' := roM M7 :: pt b1 (cl [.int .u8 o.d, .slice o.a o.vs.length o.c, .int .i64 o.k] 62) :: jnP q p x.n k false :: diskH p ⟨l, false, 65536, fJ x.n x.s.bs lg⟩ :: L) (by repeat (first | exact Ent.refl _ | exact Ent.nil | refine Ent.pick ?_ | refine Ent.nilS ?_ | refine Ent.nilM ?_ | refine Ent.drop ?_)) ?_
        refine S.cr rfl (DCopy_spec bx x 65536 M7 _ (hdj.mono hl57) (hxk.mono hl57)) ?_
        rintro _ _ ⟨bz, z, M8, rfl, hl8, hzk, hzn, hzs, hzv, hzf, rfl⟩
        have hom8 := hom.mono (hl57.trans hl8)
        repeat (first | (refine GQ.y ?_; refine Q.y ?_) | (refine GQ.a ?_; refine Q.al (fun b1 => ?_)) | (refine GQ.s ?_; refine Q.st ?_) | (refine GQ.g ?_; refine Q.gq ?_))
        refine opsS_nil ?_
        refine N.tn ?_
        refine swp_seq ?_
        refine swp_region ?_; (repeat (first | (refine GQ.y ?_; refine Q.y ?_) | (refine GQ.a ?_; refine Q.al (fun b1 => ?_)) | (refine GQ.s ?_; refine Q.st ?_) | (refine GQ.g ?_; refine Q.gq ?_))); refine opsS_nil ?_; first | refine N.tn ?_ | skip
        refine swp_seq ?_
        refine swp_region ?_; (repeat (first | (refine GQ.y ?_; refine Q.y ?_) | (refine GQ.a ?_; refine Q.al (fun b1 => ?_)) | (refine GQ.s ?_; refine Q.st ?_) | (refine GQ.g ?_; refine Q.gq ?_))); refine opsS_nil ?_; first | refine N.tn ?_ | skip
        refine swp_seq ?_
        refine swp_cutT (σ := JZ × DJ × Int × Int × (Nat → Option Obj)) (fun s => [(2, .int .u8 again), (3, .slice ak ks.length ck), (9, ptrD q), (10, ptrD p), (42, .slice (some ⟨b, oo, none⟩) os.length co), (43, .int .i64 os.length), (44, .int .i64 i), (11, ptrD bx), (12, ptrD bx), (16, ptrD bz), (17, .int .i64 s.2.2.1), (18, .int .i64 s.2.2.2.1)])
          (fun s => jnP q p s.1.n s.1.k s.1.br :: diskH p s.1.d :: djP bz s.2.1 65536 :: roM s.2.2.2.2 :: L) (fun s => OutC i s.1 x s.2.1 s.2.2.1 s.2.2.2.1 ∧ s.2.1.ok s.2.2.2.2 ∧ leM M8 s.2.2.2.2) ?_ ?_
        · refine Q.r ?_; (repeat (intro b1; refine Q.r ?_))
          refine S.y (Y.rem rfl rfl (by decide)) ?_
          rw [show Int.tmod (o.d : Int) 9 = ((o.d % 9 : Nat) : Int) from rfl]
          obtain ⟨m, hm⟩ : ∃ m, m = o.d % 9 := ⟨_, rfl⟩
          rw [← hm]
          have hm9 : m < 9 := by omega
          have hl58 := hl57.trans hl8
          have hT8 : NibM M8 := ((hT1.mono hl14).mono hl5).mono hl58
          have hzR : z.R = x.R := by unfold DJ.R; rw [hzv]
          have hzl := hzk.len
          have hkl : k ≤ 1000000 := by rw [hJ.k, List.length_map, ← hzv]; exact hzl
          have hfsl : (fJ x.n x.s.bs lg).length ≤ 2 := dJ_len 0 x.n x.s.bs lg
          have hx100 : x.n < 100 := by omega
          by_cases h45 : m = 4 ∨ m = 5
          · have hOut : OutC i (foceS ⟨⟨l, false, 65536, fJ x.n x.s.bs lg⟩, x.n, k, false⟩) x { z with f := z.vs.length } (foceE ⟨⟨l, false, 65536, fJ x.n x.s.bs lg⟩, x.n, k, false⟩) 0 := by
              rcases force_step (l := l) (room := 65536) (s := x.s.bs) hJ with ⟨f1, f2⟩ | ⟨f1, l', lg', hl1', _, f2, hJ'⟩
              · rw [f1, f2]
                exact ⟨by show x.n ≤ i + 1; omega, by show z.n ≤ i + 1; omega, .inr ⟨rfl, rfl, .inl (hJ.EN0 hx100 _)⟩⟩
              · rw [f1, f2]
                refine ⟨by show x.n ≤ i + 1; omega, by show z.n ≤ i + 1; omega, .inl ⟨by decide, rfl, ⟨hzn.symm, rfl, l', lg', hl1' hll, by show _ = (⟨l', false, 65536, fJ z.n z.s.bs lg'⟩ : DK); rw [hzn, hzs], ?_⟩⟩⟩
                show JI z.n k lg' z.R z.vs.length
                rw [hzn, hzR, hzv, ← List.length_map (f := YB.bs)]
                exact hJ'
            have hgo : (m : Int) = 4 ∨ (¬ (m : Int) = 4 ∧ (m : Int) = 5) := by omega
            rcases hgo with h4' | ⟨h4', h5'⟩ <;>
            (refine Q.r ?_; (repeat (intro b1; refine Q.r ?_))
             refine Q.dgo [true] [2, 11] [11] [0, 1, 3, 4, 5, 6, 7, 2, 8, 9, 10, 11] ?_
             repeat (first | refine D.endA ?_ | refine Q.dp rfl rfl rfl ?_ | refine Q.dy rfl rfl rfl ?_ | refine D.end_ ?_ | refine Q.endH ?_ | (refine D.e rfl rfl rfl ?_; (first | refine S.gskip1 rfl ?_ | refine S.gskip rfl ?_ | refine S.y (Y.gskipU rfl) ?_); refine opsS_nil ?_; refine N.tn ?_))
             refine D.e rfl rfl rfl ?_
             refine opsS_ent (L' := jsH p q ⟨⟨l, false, 65536, fJ x.n x.s.bs lg⟩, x.n, k, false⟩ M8 (pt b1 (cl [.int .u8 o.d, .slice o.a o.vs.length o.c, .int .i64 o.k] 62) :: L)) (by repeat (first | exact Ent.refl _ | exact Ent.nil | refine Ent.pick ?_ | refine Ent.nilS ?_ | refine Ent.nilM ?_ | refine Ent.drop ?_)) ?_
             refine S.cr rfl (Force_spec p q ⟨⟨l, false, 65536, fJ x.n x.s.bs lg⟩, x.n, k, false⟩ M8 _ hx100) ?_
             generalize foceS ⟨⟨l, false, 65536, fJ x.n x.s.bs lg⟩, x.n, k, false⟩ = T at hOut ⊢
             generalize foceE ⟨⟨l, false, 65536, fJ x.n x.s.bs lg⟩, x.n, k, false⟩ = e at hOut ⊢
             rintro _ _ ⟨rfl, M9, hl9, rfl⟩
             refine Q.r ?_; (repeat (intro b1; refine Q.r ?_))
             repeat (first | refine D.endA ?_ | refine Q.dp rfl rfl rfl ?_ | refine Q.dy rfl rfl rfl ?_ | refine D.end_ ?_ | refine Q.endH ?_ | (refine D.e rfl rfl rfl ?_; (first | refine S.gskip1 rfl ?_ | refine S.gskip rfl ?_ | refine S.y (Y.gskipU rfl) ?_); refine opsS_nil ?_; refine N.tn ?_))
             refine Q.dc rfl rfl rfl rfl ?_
             refine Q.r ?_; (repeat (intro b1; refine Q.r ?_))
             repeat (first | refine D.endA ?_ | refine Q.dp rfl rfl rfl ?_ | refine Q.dy rfl rfl rfl ?_ | refine D.end_ ?_ | refine Q.endH ?_ | (refine D.e rfl rfl rfl ?_; (first | refine S.gskip1 rfl ?_ | refine S.gskip rfl ?_ | refine S.y (Y.gskipU rfl) ?_); refine opsS_nil ?_; refine N.tn ?_))
             refine Q.r ?_; (repeat (intro b1; refine Q.r ?_))
             exact ⟨(T, { z with f := z.vs.length }, e, 0, M9), ⟨rfl, rfl, rfl, rfl, rfl, rfl, rfl, rfl, rfl, rfl, rfl, rfl, trivial⟩, by repeat (first | exact Ent.refl _ | exact Ent.nil | refine Ent.pick ?_ | refine Ent.nilS ?_ | refine Ent.nilM ?_ | refine Ent.drop ?_), hOut, ⟨(hzk.mono hl9).s, hzk.sc, hzk.sl, (hzk.mono hl9).v, (hzk.mono hl9).vo, hzk.vc, hzk.vl⟩, hl9⟩)
          have h4' : ¬ (m : Int) = 4 := by omega
          have h5' : ¬ (m : Int) = 5 := by omega
          by_cases h6 : m = 6
          · have h6' : (m : Int) = 6 := by omega
            refine Q.r ?_; (repeat (intro b1; refine Q.r ?_))
            refine Q.dgo [false, false, true] [2, 3, 6, 7] [] [0, 1, 4, 5, 2, 3, 6, 7, 8, 9] ?_
            repeat (first | refine D.endA ?_ | refine Q.dp rfl rfl rfl ?_ | refine Q.dy rfl rfl rfl ?_ | refine D.end_ ?_ | refine Q.endH ?_ | (refine D.e rfl rfl rfl ?_; (first | refine S.gskip1 rfl ?_ | refine S.gskip rfl ?_ | refine S.y (Y.gskipU rfl) ?_); refine opsS_nil ?_; refine N.tn ?_))
            refine D.e rfl rfl rfl ?_
            refine opsS_ent (L' := roM M8 :: djP bz z 65536 :: jnP q p x.n k false :: diskH p ⟨l, false, 65536, fJ x.n x.s.bs lg⟩ :: L) (by repeat (first | exact Ent.refl _ | exact Ent.nil | refine Ent.pick ?_ | refine Ent.nilS ?_ | refine Ent.nilM ?_ | refine Ent.drop ?_)) ?_
            refine S.cr rfl (state_spec (.int .u8 o.d) (.int .i64 o.k) o.a o.c o.vs M8 _ rfl rfl hom8.v hom8.w hom8.l) ?_
            rintro _ _ ⟨u, M9, rfl, hu, huo9, huc, hl9, rfl⟩
            have hul : u.bs.length ≤ 12000 := by rw [hu]; exact stateF_len _
            refine Q.r ?_; (repeat (intro b1; refine Q.r ?_))
            repeat (first | refine D.endA ?_ | refine Q.dp rfl rfl rfl ?_ | refine Q.dy rfl rfl rfl ?_ | refine D.end_ ?_ | refine Q.endH ?_ | (refine D.e rfl rfl rfl ?_; (first | refine S.gskip1 rfl ?_ | refine S.gskip rfl ?_ | refine S.y (Y.gskipU rfl) ?_); refine opsS_nil ?_; refine N.tn ?_))
            refine D.e rfl rfl rfl ?_
            refine opsS_ent (L' := jsH p q ⟨⟨l, false, 65536, fJ x.n x.s.bs lg⟩, x.n, k, false⟩ M9 (djP bz z 65536 :: L)) (by repeat (first | exact Ent.refl _ | exact Ent.nil | refine Ent.pick ?_ | refine Ent.nilS ?_ | refine Ent.nilM ?_ | refine Ent.drop ?_)) ?_
            have hold : ∀ m ∈ oldJ ⟨⟨l, false, 65536, fJ x.n x.s.bs lg⟩, x.n, k, false⟩, hasD (⟨l, false, 65536, fJ x.n x.s.bs lg⟩ : DK) m := old_has (room := 65536) hJ.isS
            have hsv := save_step (l := l) (room := 65536) (s := x.s.bs) (s' := u.bs) hJ (by omega) hll
            refine S.cr rfl (Save_spec p q ⟨⟨l, false, 65536, fJ x.n x.s.bs lg⟩, x.n, k, false⟩ u.a u.c u.bs M9 _ (by show x.n + 1 < 100; omega) (dJ_key 0 x.n x.s.bs lg) (by show (fJ x.n x.s.bs lg).length ≤ 15; omega) huo9 (hT8.mono hl9) huc (by omega) (new_no (room := 65536) (s := x.s.bs) (lg := lg) (by omega)) hold) ?_
            generalize savS ⟨⟨l, false, 65536, fJ x.n x.s.bs lg⟩, x.n, k, false⟩ u.bs = T at hsv ⊢
            generalize savE ⟨⟨l, false, 65536, fJ x.n x.s.bs lg⟩, x.n, k, false⟩ u.bs = e at hsv ⊢
            rintro _ _ ⟨rfl, M10, hl10, rfl⟩
            refine Q.r ?_; (repeat (intro b1; refine Q.r ?_))
            repeat (first | refine D.endA ?_ | refine Q.dp rfl rfl rfl ?_ | refine Q.dy rfl rfl rfl ?_ | refine D.end_ ?_ | refine Q.endH ?_ | (refine D.e rfl rfl rfl ?_; (first | refine S.gskip1 rfl ?_ | refine S.gskip rfl ?_ | refine S.y (Y.gskipU rfl) ?_); refine opsS_nil ?_; refine N.tn ?_))
            refine D.e rfl rfl rfl ?_
            refine opsS_ent (L' := roM M10 :: jnP q p T.n T.k T.br :: diskH p T.d :: djP bz z 65536 :: L) (by repeat (first | exact Ent.refl _ | exact Ent.nil | refine Ent.pick ?_ | refine Ent.nilS ?_ | refine Ent.nilM ?_ | refine Ent.drop ?_)) ?_
            have hom10 := hom8.mono (hl9.trans hl10)
            refine S.cr rfl (state_spec (.int .u8 o.d) (.int .i64 o.k) o.a o.c o.vs M10 _ rfl rfl hom10.v hom10.w hom10.l) ?_
            rintro _ _ ⟨u2, M11, rfl, hu2b, huo11, huc2, hl11, rfl⟩
            refine Q.r ?_; (repeat (intro b1; refine Q.r ?_))
            repeat (first | refine D.endA ?_ | refine Q.dp rfl rfl rfl ?_ | refine Q.dy rfl rfl rfl ?_ | refine D.end_ ?_ | refine Q.endH ?_ | (refine D.e rfl rfl rfl ?_; (first | refine S.gskip1 rfl ?_ | refine S.gskip rfl ?_ | refine S.y (Y.gskipU rfl) ?_); refine opsS_nil ?_; refine N.tn ?_))
            refine D.e rfl rfl rfl ?_
            refine opsS_ent (L' := djP bz z 65536 :: roM M11 :: jnP q p T.n T.k T.br :: diskH p T.d :: L) (by repeat (first | exact Ent.refl _ | exact Ent.nil | refine Ent.pick ?_ | refine Ent.nilS ?_ | refine Ent.nilM ?_ | refine Ent.drop ?_)) ?_
            have hub : u2.bs = u.bs := by rw [hu2b, hu]
            have hl811 := hl9.trans (hl10.trans hl11)
            refine S.cr rfl (DSave_spec bz z 65536 u2 M11 _ (hzk.mono hl811) (by omega) huo11 huc2 (by rw [hub]; omega) (by decide)) ?_
            rw [hub, hzR, hzs]
            rintro _ _ ⟨rfl, M12, z2, hl12, hz2, hd0, hd1, rfl⟩
            have hOut : OutC i T x z2 e (dsE 65536 x.s.bs x.R u.bs) := by
              rcases hsv with ⟨f1, d', n', k', rfl, hn', hEN⟩ | ⟨f1, f9, ⟨hd, l', hl1', _, rfl⟩ | ⟨hd, l', hl1', _, rfl⟩⟩
              · rw [f1]
                refine ⟨by show n' ≤ i + 1; omega, ?_, .inr ⟨rfl, rfl, ?_⟩⟩
                · by_cases hd : dsE 65536 x.s.bs x.R u.bs = 0
                  · have := (hd0 hd).1; omega
                  · rw [hd1 hd]; omega
                · rcases hEN with hEN | ⟨hd, hEN⟩
                  · exact .inl hEN
                  · obtain ⟨a1, a2, a3, a4⟩ := hd0 hd
                    right
                    show ENd d'.fs z2.n z2.s.bs (z2.vs.map YB.bs) z2.f
                    rw [a1, a2, a3, a4, hzn]; exact hEN
              · obtain ⟨a1, a2, a3, a4⟩ := hd0 hd
                refine ⟨by show x.n + 1 ≤ i + 1; omega, by omega, .inl ⟨f9, f1, ⟨by show x.n + 1 = z2.n; omega, rfl, l', none, hl1', by show _ = (⟨l', false, 65536, fJ z2.n z2.s.bs none⟩ : DK); rw [a1, a2, hzn], ?_⟩⟩⟩
                show JI z2.n 0 none (z2.vs.map YB.bs) z2.f
                rw [a3, a4]; exact JI.new _
              · have hz := hd1 hd
                refine ⟨by show x.n ≤ i + 1; omega, by rw [hz]; omega, .inl ⟨f9, f1, ⟨by show x.n = z2.n; rw [hz]; exact hzn.symm, rfl, l', lg, hl1', by show _ = (⟨l', false, 65536, fJ z2.n z2.s.bs lg⟩ : DK); rw [hz, hzn, hzs], ?_⟩⟩⟩
                show JI z2.n k lg z2.R z2.f
                rw [hz, hzn, hzR, hzf]; exact hJ
            refine Q.r ?_; (repeat (intro b1; refine Q.r ?_))
            repeat (first | refine D.endA ?_ | refine Q.dp rfl rfl rfl ?_ | refine Q.dy rfl rfl rfl ?_ | refine D.end_ ?_ | refine Q.endH ?_ | (refine D.e rfl rfl rfl ?_; (first | refine S.gskip1 rfl ?_ | refine S.gskip rfl ?_ | refine S.y (Y.gskipU rfl) ?_); refine opsS_nil ?_; refine N.tn ?_))
            refine Q.r ?_; (repeat (intro b1; refine Q.r ?_))
            exact ⟨(T, z2, e, dsE 65536 x.s.bs x.R u.bs, M12), ⟨rfl, rfl, rfl, rfl, rfl, rfl, rfl, rfl, rfl, rfl, rfl, rfl, trivial⟩, by repeat (first | exact Ent.refl _ | exact Ent.nil | refine Ent.pick ?_ | refine Ent.nilS ?_ | refine Ent.nilM ?_ | refine Ent.drop ?_), hOut, hz2, hl811.trans hl12⟩
          have h6' : ¬ (m : Int) = 6 := by omega
          by_cases h78 : m = 7 ∨ m = 8
          · have hgo : (m : Int) = 7 ∨ (¬ (m : Int) = 7 ∧ (m : Int) = 8) := by omega
            rcases hgo with h7' | ⟨h7', h8'⟩ <;>
            (refine Q.r ?_; (repeat (intro b1; refine Q.r ?_))
             exact ⟨(i + 1, k, l, lg, x, bx, M8), ⟨rfl, rfl, rfl, rfl, rfl, rfl, rfl, rfl, rfl, trivial⟩, by repeat (first | exact Ent.refl _ | exact Ent.nil | refine Ent.pick ?_ | refine Ent.nilS ?_ | refine Ent.nilM ?_ | refine Ent.drop ?_), ⟨hlt, by show i + 1 ≤ 40; omega, hll, by show x.n ≤ i + 1; omega, hJ, hxk.mono hl58, hdj.mono hl58, hl5.trans hl58⟩, by show os.length - (i + 1) < os.length - i; omega⟩)
          have h7' : ¬ (m : Int) = 7 := by omega
          have h8' : ¬ (m : Int) = 8 := by omega
          refine Q.r ?_; (repeat (intro b1; refine Q.r ?_))
          refine opsS_ent (L' := jsH p q ⟨⟨l, false, 65536, fJ x.n x.s.bs lg⟩, x.n, k, false⟩ M8 (djP bz z 65536 :: L)) (by repeat (first | exact Ent.refl _ | exact Ent.nil | refine Ent.pick ?_ | refine Ent.nilS ?_ | refine Ent.nilM ?_ | refine Ent.drop ?_)) ?_
          have hpt := put_step (l := l) (room := 65536) (s := x.s.bs) hJ hx100 (us.map YB.bs)
          refine S.cr rfl (JPut_spec p q ⟨⟨l, false, 65536, fJ x.n x.s.bs lg⟩, x.n, k, false⟩ a4 c4 us M8 _ hx100 hkl (by show (fJ x.n x.s.bs lg).length ≤ 15; omega) (hs7.mono hl8) (huo7.mono hl8) hT8 (by omega) (fun v hv => by have := hu2 v hv; omega)) ?_
          generalize ptS ⟨⟨l, false, 65536, fJ x.n x.s.bs lg⟩, x.n, k, false⟩ (us.map YB.bs) = T at hpt ⊢
          generalize ptE ⟨⟨l, false, 65536, fJ x.n x.s.bs lg⟩, x.n, k, false⟩ (us.map YB.bs) = e at hpt ⊢
          rintro _ _ ⟨rfl, M9, hl9, rfl⟩
          refine Q.r ?_; (repeat (intro b1; refine Q.r ?_))
          refine opsS_ent (L' := djP bz z 65536 :: roM M9 :: jnP q p T.n T.k T.br :: diskH p T.d :: L) (by repeat (first | exact Ent.refl _ | exact Ent.nil | refine Ent.pick ?_ | refine Ent.nilS ?_ | refine Ent.nilM ?_ | refine Ent.drop ?_)) ?_
          have hfr := okRc_le (R := us.map YB.bs) (n := 300) (fun r hr => by obtain ⟨v, hv, rfl⟩ := List.mem_map.1 hr; exact hu2 v hv) (by rw [List.length_map]; omega) (by decide)
          refine S.cr rfl (DPut_spec bz z 65536 a4 c4 us M9 _ (hzk.mono hl9) (hs7.mono (hl8.trans hl9)) (huo7.mono (hl8.trans hl9)) (fun v hv => by have := hu2 v hv; omega) (by omega) (by decide)) ?_
          rw [hzR, hzs]
          rintro _ _ ⟨rfl, M10, z2, hl10, hz2, hz2n, hz2s, hz2f, hz2R, rfl⟩
          have hOut : OutC i T x z2 e (dpE 65536 x.s.bs x.R (us.map YB.bs)) := by
            rcases hpt with ⟨f1, rfl⟩ | ⟨f1, f9, l', k', lg', hl1', _, rfl, hJ'⟩
            · rw [f1]
              exact ⟨by show x.n ≤ i + 1; omega, by omega, .inr ⟨rfl, rfl, .inl (hJ.EN0 hx100 _)⟩⟩
            · refine ⟨by show x.n ≤ i + 1; omega, by omega, .inl ⟨f9, f1, ⟨by show x.n = z2.n; omega, rfl, l', lg', hl1' hll, by show _ = (⟨l', false, 65536, fJ z2.n z2.s.bs lg'⟩ : DK); rw [hz2n, hzn, hz2s], ?_⟩⟩⟩
              show JI z2.n k' lg' z2.R z2.f
              rw [hz2n, hzn, hz2R, hz2f, hzf]; exact hJ'
          refine Q.r ?_; (repeat (intro b1; refine Q.r ?_))
          exact ⟨(T, z2, e, dpE 65536 x.s.bs x.R (us.map YB.bs), M10), ⟨rfl, rfl, rfl, rfl, rfl, rfl, rfl, rfl, rfl, rfl, rfl, rfl, trivial⟩, by repeat (first | exact Ent.refl _ | exact Ent.nil | refine Ent.pick ?_ | refine Ent.nilS ?_ | refine Ent.nilM ?_ | refine Ent.drop ?_), hOut, hz2, hl9.trans hl10⟩
        · rintro ⟨T, z2, e, f, M9⟩ ⟨hO, hzk2, hl9⟩
          dsimp only at hO hzk2 hl9 ⊢
          refine Q.r ?_; (repeat (intro b1; refine Q.r ?_))
          refine swp_dj bz (x := z2) (room := 65536) (fun M10 hl10 hdz => ?_)
          have hl8a := hl9.trans hl10
          have hl5a := hl57.trans (hl8.trans hl8a)
          rcases hO.o with ⟨he9, hef, hA⟩ | ⟨he9, hbr, hEN⟩
          · subst hef
            obtain ⟨an, ab, l', lg', hl1', ad, aJ⟩ := hA
            obtain ⟨d1, n1, k1, b1'⟩ := T
            dsimp only at an ab ad aJ ⊢
            subst an ab ad
            refine Q.r ?_; (repeat (intro b1; refine Q.r ?_))
            exact ⟨(i + 1, k1, l', lg', z2, bz, M10), ⟨rfl, rfl, rfl, rfl, rfl, rfl, rfl, rfl, rfl, trivial⟩, by repeat (first | exact Ent.refl _ | exact Ent.nil | refine Ent.pick ?_ | refine Ent.nilS ?_ | refine Ent.nilM ?_ | refine Ent.drop ?_), ⟨hlt, by show i + 1 ≤ 40; omega, hl1', hO.zn, aJ, hzk2.mono hl10, hdz, hl5.trans hl5a⟩, by show os.length - (i + 1) < os.length - i; omega⟩
          · rw [hbr]
            refine Q.r ?_; (repeat (intro b1; refine Q.r ?_))
            refine opsS_ent (L' := jnP q p T.n T.k true :: diskH p T.d :: roM M10 :: L) (by repeat (first | exact Ent.refl _ | exact Ent.nil | refine Ent.pick ?_ | refine Ent.nilS ?_ | refine Ent.nilM ?_ | refine Ent.drop ?_)) ?_
            refine S.cr rfl (Broken_spec q p T.n T.k true _) ?_
            rintro _ _ ⟨rfl, rfl⟩
            refine Q.r ?_; (repeat (intro b1; refine Q.r ?_))
            refine S.cvj (t0 := 5) rfl rfl (fun M11 hl11 hs11 => ?_)
            generalize b1 = bc at *
            refine Q.r ?_; (repeat (intro b1; refine Q.r ?_))
            refine opsS_ent (L' := jnP q p T.n T.k true :: diskH p T.d :: roM M11 :: L) (by repeat (first | exact Ent.refl _ | exact Ent.nil | refine Ent.pick ?_ | refine Ent.nilS ?_ | refine Ent.nilM ?_ | refine Ent.drop ?_)) ?_
            refine S.cr rfl (Put_br q p T.n T.k _ _) ?_
            rintro _ _ ⟨rfl, rfl⟩
            refine Q.r ?_; (repeat (intro b1; refine Q.r ?_))
            refine S.cr rfl (Force_br q p T.n T.k _) ?_
            rintro _ _ ⟨rfl, rfl⟩
            refine Q.r ?_; (repeat (intro b1; refine Q.r ?_))
            refine S.cr rfl (Save_br q p T.n T.k _ _) ?_
            rintro _ _ ⟨rfl, rfl⟩
            refine Q.r ?_; (repeat (intro b1; refine Q.r ?_))
            exact ⟨(T.d, x, z2, bx, bz, M11), ⟨rfl, rfl, rfl, rfl, rfl, trivial⟩, by repeat (first | exact Ent.refl _ | exact Ent.nil | refine Ent.pick ?_ | refine Ent.nilS ?_ | refine Ent.nilM ?_ | refine Ent.drop ?_), hxk.mono (hl5a.trans hl11), hzk2.mono (hl10.trans hl11), hdj.mono (hl5a.trans hl11), hdz.mono hl11, hEN, hl5.trans (hl5a.trans hl11)⟩
      · have hi39' : (40 : Int) ≤ (i : Int) := by omega
        refine Q.r ?_; (repeat (intro b1; refine Q.r ?_))
        exact ⟨(_, x, x, bx, bx, M5), ⟨rfl, rfl, rfl, rfl, rfl, trivial⟩, by repeat (first | exact Ent.refl _ | exact Ent.nil | refine Ent.pick ?_ | refine Ent.nilS ?_ | refine Ent.nilM ?_ | refine Ent.drop ?_), hxk, hxk, hdj, hdj, .inl (hJ.EN0 (by omega) _), hl5⟩
    · have hke : i = os.length := by omega
      subst hke
      refine Q.r ?_; (repeat (intro b1; refine Q.r ?_))
      exact ⟨(_, x, x, bx, bx, M5), ⟨rfl, rfl, rfl, rfl, rfl, trivial⟩, by repeat (first | exact Ent.refl _ | exact Ent.nil | refine Ent.pick ?_ | refine Ent.nilS ?_ | refine Ent.nilM ?_ | refine Ent.drop ?_), hxk, hxk, hdj, hdj, .inl (hJ.EN0 (by omega) _), hl5⟩
  · rintro ⟨d, x, y, bx, bz, M5⟩ ⟨hxk, hyk, hdx, hdy, hEN, hl5⟩
    dsimp only at hxk hyk hdx hdy hEN hl5 ⊢
    refine Q.r ?_; (repeat (intro b1; refine Q.r ?_))
    have hE5 : ErrM M5 := (hE1.mono hl14).mono hl5
    have hT5 : NibM M5 := (hT1.mono hl14).mono hl5
    have hk5 := (hk.mono hl1).mono (hl14.trans hl5)
    obtain ⟨w, hw, hwx⟩ : ∃ w, ENx d.fs w ∧ (w = x ∨ w = y) := by
      rcases hEN with h | h
      · exact ⟨x, h, .inl rfl⟩
      · exact ⟨y, h, .inr rfl⟩
    clear hEN ho hoo hk
    refine opsS_ent (L' := roM M5 :: diskH p d :: L) (by repeat (first | exact Ent.refl _ | exact Ent.nil | refine Ent.pick ?_ | refine Ent.nilS ?_ | refine Ent.nilM ?_ | refine Ent.drop ?_)) ?_
    refine S.cr rfl (Ends_spec ak ck ks M5 _ hk5 hkc) ?_
    rintro _ _ ⟨a6, c6, M6, rfl, hs6, hl6, rfl⟩
    have h20 : (ks.take 20).length ≤ 1000000 := by rw [List.length_take]; omega
    refine Q.r ?_; (repeat (intro b1; refine Q.r ?_))
    refine S.ckm p rfl (Crash_spec p d a6 c6 (ks.take 20) M6 _ hs6 h20) ?_
    rintro _ _ ⟨kf, M7, rfl, hl7, hkf, _, rfl⟩
    have hw1 : ENx (crD d kf).fs w := ENd.crash hw hkf
    obtain ⟨d1, hd1⟩ : ∃ d1, d1 = crD d kf := ⟨_, rfl⟩
    rw [← hd1] at hw1 ⊢
    refine Q.r ?_; (repeat (intro b1; refine Q.r ?_))
    refine S.y (Y.rem rfl rfl (by decide)) ?_
    rw [show Int.tmod (again : Int) 5 = ((again % 5 : Nat) : Int) from rfl]
    refine S.y (Y.cvi rfl) ?_
    rw [wrap64 (by omega)]
    refine S.ck p rfl (Arm_spec p _ _ _ (by omega)) ?_
    rintro _ _ ⟨rfl, rfl⟩
    obtain ⟨d2, hd2⟩ : ∃ d2, d2 = ({ d1 with left := max ((again % 5 : Nat) : Int) (-1) } : DK) := ⟨_, rfl⟩
    have hw2 : ENx d2.fs w := by rw [hd2]; exact hw1
    rw [← hd2]
    refine Q.r ?_; (repeat (intro b1; refine Q.r ?_))
    have hl57 := hl6.trans hl7
    refine S.ckm p rfl (Open_any p d2 M7 _ (hE5.mono hl57) (hT5.mono hl57) (ENd.good hw2)) ?_
    rintro _ _ ⟨M8, hl8, rfl⟩
    have hw3 : ENx (opnS d2).fs w := ENd.opened hw2
    obtain ⟨d3, hd3⟩ : ∃ d3, d3 = opnS d2 := ⟨_, rfl⟩
    rw [← hd3] at hw3 ⊢
    have hl58 := hl57.trans hl8
    refine Q.r ?_; (repeat (intro b1; refine Q.r ?_))
    refine opsS_ent (L' := roM M8 :: diskH p d3 :: L) (by repeat (first | exact Ent.refl _ | exact Ent.nil | refine Ent.pick ?_ | refine Ent.nilS ?_ | refine Ent.nilM ?_ | refine Ent.drop ?_)) ?_
    refine S.cr rfl (Ends_spec ak ck ks M8 _ (hk5.mono hl58) hkc) ?_
    rintro _ _ ⟨a9, c9, M9, rfl, hs9, hl9, rfl⟩
    refine Q.r ?_; (repeat (intro b1; refine Q.r ?_))
    refine S.ckm p rfl (Crash_spec p d3 a9 c9 (ks.take 20) M9 _ hs9 h20) ?_
    rintro _ _ ⟨kf2, M10, rfl, hl10, hkf2, _, rfl⟩
    have hw4 : ENx (crD d3 kf2).fs w := ENd.crash hw3 hkf2
    have hlv : live (crD d3 kf2) := ⟨rfl, rfl⟩
    obtain ⟨d4, hd4⟩ : ∃ d4, d4 = crD d3 kf2 := ⟨_, rfl⟩
    rw [← hd4] at hw4 hlv ⊢
    have hl510 := hl58.trans (hl9.trans hl10)
    obtain ⟨j, hj1, hj2, o1, o2, o3, o4, o5, o6, o7⟩ := ENd.live hw4 hlv
    refine Q.r ?_; (repeat (intro b1; refine Q.r ?_))
    refine S.ckm p rfl (Open_liv p d4 M10 _ (hE5.mono hl510) (hT5.mono hl510) (ENd.good hw4) o1) ?_
    rintro _ _ ⟨q1, sv, av, cv, vs, M11, rfl, hsv, hsvo, hvs, hvso, hvsS, hl11, rfl⟩
    rw [o2] at hsv
    rw [o3] at hvs
    have hsb : sv.bs = w.s.bs := Option.some.inj hsv
    refine Q.r ?_; (repeat (intro b1; refine Q.r ?_))
    generalize b1 = ba at *
    refine S.ckm p rfl (Open_liv p (opnS d4) M11 _ (hE5.mono (hl510.trans hl11)) (hT5.mono (hl510.trans hl11)) o4 o5) ?_
    rintro _ _ ⟨q2, su, au, cu, us, M12, rfl, hsu, hsuo, hus, huso, husS, hl12, rfl⟩
    rw [o6] at hsu
    rw [o7] at hus
    have hsb2 : sv.bs = su.bs := by rw [hsb]; exact (Option.some.inj hsu).symm
    have hrr : vs.map YB.bs = us.map YB.bs := by rw [hvs, hus]
    have hvl : vs.length ≤ 1000000 := by
      rw [← List.length_map (f := YB.bs), hvs, List.length_take]
      rcases hwx with rfl | rfl
      · have := hxk.len; rw [List.length_map]; omega
      · have := hyk.len; rw [List.length_map]; omega
    refine Q.r ?_; (repeat (intro b1; refine Q.r ?_))
    refine S.cr rfl (YSame_spec sv su _ (hsvo.mono hl12).rd hsuo.rd) ?_
    rintro _ _ ⟨rfl, rfl⟩
    rw [decide_eq_true hsb2]
    refine Q.r ?_; (repeat (intro b1; refine Q.r ?_))
    refine opsS_ent (L' := roM M12 :: pt ba (cl [sv.val, .slice av vs.length cv] 37) :: L) (by repeat (first | exact Ent.refl _ | exact Ent.nil | refine Ent.pick ?_ | refine Ent.nilS ?_ | refine Ent.nilM ?_ | refine Ent.drop ?_)) ?_
    refine S.cr rfl (Same6_spec av au cv cu vs us M12 _ (hvsS.mono hl12) (hvso.mono hl12) husS huso (by omega)) ?_
    rintro _ _ ⟨rfl, rfl⟩
    rw [decide_eq_true hrr]
    refine Q.r ?_; (repeat (intro b1; refine Q.r ?_))
    have hl512 := hl510.trans (hl11.trans hl12)
    refine opsS_ent (L' := roM M12 :: pt ba (cl [sv.val, .slice av vs.length cv] 37) :: L) (by repeat (first | exact Ent.refl _ | exact Ent.nil | refine Ent.pick ?_ | refine Ent.nilS ?_ | refine Ent.nilM ?_ | refine Ent.drop ?_)) ?_
    refine S.cr rfl (fits_spec bx x 65536 sv av cv vs M12 _ (hdx.mono hl512) (hxk.mono hl512) (hsvo.mono hl12) (hvsS.mono hl12) (hvso.mono hl12) hvl) ?_
    rintro _ _ ⟨rfl, rfl⟩
    have hfw : fitD w sv.bs (vs.map YB.bs) = true := by
      have hlen : (vs.map YB.bs).length = j := by rw [hvs, List.length_take]; omega
      unfold fitD
      rw [decide_eq_true hsb.symm, hlen, decide_eq_true hj1, decide_eq_true (show j ≤ w.vs.length by rw [← List.length_map (f := YB.bs)]; exact hj2), decide_eq_true hvs]
      rfl
    by_cases hfx : fitD x sv.bs (vs.map YB.bs) = true
    · rw [hfx]
      refine Q.r ?_; (repeat (intro b1; refine Q.r ?_))
      exact N.r1 (RV.tmp rfl RV.nil) (Ent.refl _) rfl
    · have hfx' : fitD x sv.bs (vs.map YB.bs) = false := by simpa using hfx
      have hwy : w = y := by
        rcases hwx with rfl | h
        · exact absurd hfw hfx
        · exact h
      rw [hwy] at hfw
      rw [hfx']
      refine Q.r ?_; (repeat (intro b1; refine Q.r ?_))
      refine S.cr rfl (fits_spec bz y 65536 sv av cv vs M12 _ (hdy.mono hl512) (hyk.mono hl512) (hsvo.mono hl12) (hvsS.mono hl12) (hvso.mono hl12) hvl) ?_
      rintro _ _ ⟨rfl, rfl⟩
      rw [hfw]
      refine Q.r ?_; (repeat (intro b1; refine Q.r ?_))
      exact N.r1 (RV.tmp rfl RV.nil) (Ent.refl _) rfl
end Go.Proofs.YtkleenllkjodoaaGreatDoor
namespace Go.Proofs.YtkleenllkjodoaaGreatDoor
open Go Go.SX Go.ChangeShapes Go.WideShapes Go.ChangeAt Go.RowKit
theorem Rd.i64n {H : Type} {enc : TypeId × Value → H} {W : World} {cs : List Value} (h : Rd enc Tryz.prog W 3 cs) : ∃ z, cs = [I64 z] ∧ True := by
  obtain ⟨z, hz, hw⟩ := Rd.int h Tryz.underlying3
  exact ⟨z, hz, trivial⟩
theorem flatI (xs : List Int) : xs.flatMap (fun z => [I64 z]) = xs.map I64 := by induction xs with
  | nil => rfl
  | cons x xs ih => rw [List.flatMap_cons, ih]; rfl
set_option maxRecDepth 100000 in
theorem Rd.jo {H : Type} {enc : TypeId × Value → H} {W : World} {cs : List Value} (h : Rd enc Tryz.prog W 62 cs) : ∃ o : JO, cs = o.cells ∧ o.ok (all0 W) := by
  obtain ⟨hl, hf⟩ := h.fields Tryz.underlying62
  obtain ⟨x, h0, hx⟩ := Rd.int (hf 0 _ rfl) Tryz.underlying5
  obtain ⟨a, c, ls, h1, h1c, h1m, h1s, h1q⟩ := Rd.list (fun r hr => Rd.yb hr) (hf 1 _ rfl) (sz := 1) Tryz.underlying23 (by kernel_rfl) (by decide)
  obtain ⟨i, h2, _⟩ := Rd.int (hf 2 _ rfl) Tryz.underlying3
  have hb := bounds_u8 hx
  obtain ⟨d, rfl⟩ := Int.eq_ofNat_of_zero_le hb.1
  have hl' : cs.length = 3 := hl
  match cs, hl' with
  | [u0, u1, u2], _ =>
    have h0' : [u0] = [Value.int .u8 (d : Int)] := h0
    have h1' : [u1] = [Value.slice a ls.length c] := h1
    have h2' : [u2] = [Value.int .i64 i] := h2
    simp only [List.cons.injEq, and_true] at h0' h1' h2'
    subst h0' h1' h2'
    have hmx : maxLen = 9223372036854775807 := by decide
    rw [hmx] at h1m
    exact ⟨⟨d, a, c, ls, i⟩, rfl, ⟨h1s, h1q, Nat.le_trans h1c h1m⟩⟩
end Go.Proofs.YtkleenllkjodoaaGreatDoor
