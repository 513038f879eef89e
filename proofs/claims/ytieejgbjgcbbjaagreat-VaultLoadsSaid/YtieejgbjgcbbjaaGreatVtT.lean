/- The ref's vault: the chain's Sweep, set of nothing. No condition. -/
import Derived.Test.YtieejgbjgcbbjaaGreatVtR
set_option linter.unusedVariables false
set_option linter.unusedSimpArgs false
namespace Go.Proofs.YtieejgbjgcbbjaaGreat
open Go Go.SX
attribute [local irreducible] swp opsS thenS blockS retS CallsS St Ent YieldS anyS drawS
theorem cut_iff {ovs : List OV} {s : Int} (hs : sortedV (ovs.map OV.abs)) {i : Nat} {o : OV} (ho : ovs[i]? = some o) :
    cutN (ovs.map OV.abs) s ≤ i ↔ (s < o.id ∨ ((i + 1 = ovs.length ∨ ∃ y, ovs[i + 1]? = some y ∧ s < y.id) ∧ 0 < o.vec.length)) := by
  have hil : i < ovs.length := (List.getElem?_eq_some_iff.1 ho).1
  have hle := aft_le (ovs.map OV.abs) s
  rw [List.length_map] at hle
  have hat : ∀ (j : Nat) (y : OV), ovs[j]? = some y → (ovs.map OV.abs)[j]? = some (y.id, y.vec) := fun j y h => by rw [List.getElem?_map, h]; rfl
  unfold cutN
  obtain ⟨n, hn⟩ : ∃ n, n = aftN (ovs.map OV.abs) s := ⟨_, rfl⟩
  rw [← hn] at hle ⊢
  by_cases h1 : n ≤ i
  · have h2 := aft_hi (st := s) hs i _ (by omega) (hat i o ho)
    constructor
    · intro _; exact .inl h2
    · intro _
      by_cases h0 : n = 0
      · rw [if_pos h0]; omega
      · rw [if_neg h0]; split <;> omega
  · have h2 := aft_lo (st := s) hs i _ (by omega) (hat i o ho)
    dsimp only at h2
    rw [if_neg (by omega)]
    by_cases h3 : i = n - 1
    · have e : (((ovs.map OV.abs)[n - 1]?).map (·.2)).getD [] = o.vec := by rw [← h3, hat i o ho]; rfl
      rw [e]
      have hlast : i + 1 = ovs.length ∨ ∃ y, ovs[i + 1]? = some y ∧ s < y.id := by
        by_cases h4 : i + 1 = ovs.length
        · exact .inl h4
        · obtain ⟨y, hy⟩ := mem_get (l := ovs) (k := i + 1) (by omega)
          exact .inr ⟨y, hy, aft_hi (st := s) hs (i + 1) _ (by omega) (hat _ y hy)⟩
      by_cases hz : 0 < o.vec.length
      · rw [if_pos hz]
        exact ⟨fun _ => .inr ⟨hlast, hz⟩, fun _ => by omega⟩
      · rw [if_neg hz]
        constructor
        · intro h; omega
        · rintro (h | ⟨_, h⟩)
          · omega
          · exact absurd h hz
    · constructor
      · intro h
        exfalso
        split at h <;> omega
      · rintro (h | ⟨h | ⟨y, hy, h⟩, _⟩)
        · omega
        · omega
        · have := aft_lo (st := s) hs (i + 1) _ (by omega) (hat _ y hy)
          dsimp only at this
          omega
set_option maxHeartbeats 4000000 in
theorem RChSweep_spec (a : Option Addr) (c : Nat) (ovs : List OV) (s : Int) (L : List HP) (h : RdS L a ovs.length 2 (ovs.flatMap OV.cells)) (hn : ovs.length ≤ 1000000) (hs : sortedV (ovs.map OV.abs)) :
    CallsS Tryz.prog 61 [.slice a ovs.length c, .int .u64 s] L
      (fun r L' => ∃ a1 c1 a2 c2, r = .tuple #[.slice a1 (ovs.drop (cutN (ovs.map OV.abs) s)).length c1, .slice a2 ((ovs.take (cutN (ovs.map OV.abs) s)).map (·.id)).length c2] ∧ L' = slO 43 2 a1 (ovs.drop (cutN (ovs.map OV.abs) s)).length c1 ((ovs.drop (cutN (ovs.map OV.abs) s)).flatMap OV.cells) :: slO 22 1 a2 ((ovs.take (cutN (ovs.map OV.abs) s)).map (·.id)).length c2 (((ovs.take (cutN (ovs.map OV.abs) s)).map (·.id)).map U64) :: L) := by
  obtain ⟨nn, hnn⟩ : ∃ nn, nn = cutN (ovs.map OV.abs) s := ⟨_, rfl⟩
  have hci := fun i o ho => cut_iff (s := s) hs (i := i) (o := o) ho
  rw [← hnn] at hci ⊢
  clear hnn hs
  refine CallsS.of_body Tryz.func61 rfl rfl rfl ?_
  repeat (first | (refine GQ.y ?_; refine Q.y ?_) | refine Q.go ?_ | (refine GQ.g ?_; refine Q.gq ?_) | (refine GQ.s ?_; refine Q.st ?_) | (refine GQ.g ?_; refine Q.gd ?_) | refine Q.ct rfl ?_ | refine Q.cf rfl ?_ | (refine GQ.a ?_; refine Q.al (fun b1 => ?_)))
  refine swp_loop (σ := Nat × (Option Addr × Nat × List OV) × Option Addr × Nat × List Int) (fun u => [(0, .slice a ovs.length c), (1, .int .u64 s), (11, .slice a ovs.length c), (12, .int .i64 ovs.length), (6, .slice u.2.1.1 u.2.1.2.2.length u.2.1.2.1), (7, .slice u.2.2.1 u.2.2.2.2.length u.2.2.2.1), (13, .int .i64 u.1)])
    (fun u => slO 43 2 u.2.1.1 u.2.1.2.2.length u.2.1.2.1 (u.2.1.2.2.flatMap OV.cells) :: slO 22 1 u.2.2.1 u.2.2.2.2.length u.2.2.2.1 (u.2.2.2.2.map U64) :: L)
    (fun u => u.1 ≤ ovs.length ∧ u.2.1.2.2 = (ovs.take u.1).drop nn ∧ u.2.2.2.2 = ((ovs.take u.1).take nn).map (·.id)) (fun u => ovs.length - u.1) (0, (none, 0, []), none, 0, []) ⟨rfl, rfl, rfl, rfl, rfl, rfl, rfl, trivial⟩ ?_ ⟨by omega, by simp, by simp⟩ ?_
  · exact Ent.trans slO_nil (Ent.trans slO_nil (Ent.perm (.swap _ _ _)))
  rintro ⟨k, ⟨a1, c1, us⟩, a2, c2, gs⟩ ⟨hk, hus, hgs⟩
  dsimp only at hk hus hgs ⊢
  have hul : us.length ≤ k := by rw [hus]; simp; omega
  have hgl : gs.length ≤ k := by rw [hgs]; simp; omega
  by_cases hlt : k < ovs.length
  · obtain ⟨o, ho⟩ := mem_get hlt
    have hci' := hci k o ho
    have hrs : RdS (slO 43 2 a1 us.length c1 (us.flatMap OV.cells) :: slO 22 1 a2 gs.length c2 (gs.map U64) :: L) a ovs.length 2 (ovs.flatMap OV.cells) := h.sub
    obtain ⟨b, oo, hia, hr⟩ := RdS.elem (g := OV.cells) (fun _ => rfl) hrs ho rfl
    clear hrs
    subst hia
    repeat (first | (refine GQ.y ?_; refine Q.y ?_) | refine Q.go ?_ | (refine GQ.g ?_; refine Q.gq ?_) | (refine GQ.s ?_; refine Q.st ?_) | (refine GQ.g ?_; refine Q.gd ?_) | refine Q.ct rfl ?_ | refine Q.cf rfl ?_ | (refine GQ.a ?_; refine Q.al (fun b1 => ?_)))
    refine opsS_cutT (σ := Bool) (fun t => [(0, .slice (some ⟨b, oo, none⟩) ovs.length c), (1, .int .u64 s), (9, .pointer (some ⟨b1, 0, none⟩)), (10, .bool t), (11, .slice (some ⟨b, oo, none⟩) ovs.length c), (12, .int .i64 ovs.length), (6, .slice a1 us.length c1), (7, .slice a2 gs.length c2), (13, .int .i64 k)])
      (fun _ => pt b1 (cl o.cells 43) :: slO 43 2 a1 us.length c1 (us.flatMap OV.cells) :: slO 22 1 a2 gs.length c2 (gs.map U64) :: L)
      (fun t => t = true ↔ (k + 1 = ovs.length ∨ ∃ y, ovs[k + 1]? = some y ∧ s < y.id)) ?_ ?_
    · by_cases h4 : k + 1 = ovs.length
      · repeat (first | refine Q.yn ?_ | refine S.stI rfl rfl (by first | omega | (rw [Array.size_setIfInBounds]; omega)) ?_ | (refine GQ.y ?_; refine Q.y ?_) | refine Q.go ?_ | (refine GQ.g ?_; refine Q.gq ?_) | (refine GQ.s ?_; refine Q.st ?_) | (refine GQ.g ?_; refine Q.gd ?_) | refine Q.ct rfl ?_ | refine Q.cf rfl ?_ | (refine GQ.a ?_; refine Q.al (fun b1 => ?_)))
        exact ⟨_, ⟨rfl, rfl, rfl, rfl, rfl, rfl, rfl, rfl, rfl, trivial⟩, Ent.refl _, by simp [h4]⟩
      · obtain ⟨y, hy⟩ := mem_get (l := ovs) (k := k + 1) (by omega)
        have hrs : RdS (pt b1 (cl o.cells 43) :: slO 43 2 a1 us.length c1 (us.flatMap OV.cells) :: slO 22 1 a2 gs.length c2 (gs.map U64) :: L) (some ⟨b, oo, none⟩) ovs.length 2 (ovs.flatMap OV.cells) := h.sub
        obtain ⟨b', oo', hia', hr2⟩ := RdS.elem (g := OV.cells) (fun _ => rfl) hrs hy rfl
        cases hia'
        clear hrs
        repeat (first | refine S.y (Y.ldRj rfl (by first | assumption | exact RdC.sub (by assumption)) rfl) ?_ | refine Q.yn ?_ | refine S.stI rfl rfl (by first | omega | (rw [Array.size_setIfInBounds]; omega)) ?_ | (refine GQ.y ?_; refine Q.y ?_) | refine Q.go ?_ | (refine GQ.g ?_; refine Q.gq ?_) | (refine GQ.s ?_; refine Q.st ?_) | (refine GQ.g ?_; refine Q.gd ?_) | refine Q.ct rfl ?_ | refine Q.cf rfl ?_ | (refine GQ.a ?_; refine Q.al (fun b1 => ?_)))
        exact ⟨_, ⟨rfl, rfl, rfl, rfl, rfl, rfl, rfl, rfl, rfl, trivial⟩, Ent.refl _, by simp [h4, hy]⟩
    intro t ht
    rw [← ht] at hci'
    repeat (first | (refine GQ.y ?_; refine Q.y ?_) | refine Q.go ?_ | (refine GQ.g ?_; refine Q.gq ?_) | (refine GQ.s ?_; refine Q.st ?_) | (refine GQ.a ?_; refine Q.al (fun b1 => ?_)))
    refine opsS_cutT (σ := Bool) (fun t => [(0, .slice (some ⟨b, oo, none⟩) ovs.length c), (1, .int .u64 s), (9, .pointer (some ⟨b1, 0, none⟩)), (45, .bool t), (11, .slice (some ⟨b, oo, none⟩) ovs.length c), (12, .int .i64 ovs.length), (6, .slice a1 us.length c1), (7, .slice a2 gs.length c2), (13, .int .i64 k)])
      (fun _ => pt b1 (cl o.cells 43) :: slO 43 2 a1 us.length c1 (us.flatMap OV.cells) :: slO 22 1 a2 gs.length c2 (gs.map U64) :: L)
      (fun t => t = true ↔ nn ≤ k) ?_ ?_
    · rw [hci']
      by_cases hq1 : s < o.id
      · repeat (first | (refine GQ.y ?_; refine Q.y ?_) | refine Q.go ?_ | (refine GQ.g ?_; refine Q.gq ?_) | (refine GQ.s ?_; refine Q.st ?_) | (refine GQ.g ?_; refine Q.gd ?_) | refine Q.ct rfl ?_ | refine Q.cf rfl ?_ | (refine GQ.a ?_; refine Q.al (fun b1 => ?_)))
        exact ⟨_, ⟨rfl, rfl, rfl, rfl, rfl, rfl, rfl, rfl, rfl, trivial⟩, Ent.refl _, by simp [hq1]⟩
      · cases t with
        | false =>
          repeat (first | (refine GQ.y ?_; refine Q.y ?_) | refine Q.go ?_ | (refine GQ.g ?_; refine Q.gq ?_) | (refine GQ.s ?_; refine Q.st ?_) | (refine GQ.g ?_; refine Q.gd ?_) | refine Q.ct rfl ?_ | refine Q.cf rfl ?_ | (refine GQ.a ?_; refine Q.al (fun b1 => ?_)))
          exact ⟨_, ⟨rfl, rfl, rfl, rfl, rfl, rfl, rfl, rfl, rfl, trivial⟩, Ent.refl _, by simp [hq1]⟩
        | true =>
          repeat (first | (refine GQ.y ?_; refine Q.y ?_) | refine Q.go ?_ | (refine GQ.g ?_; refine Q.gq ?_) | (refine GQ.s ?_; refine Q.st ?_) | (refine GQ.g ?_; refine Q.gd ?_) | refine Q.ct rfl ?_ | refine Q.cf rfl ?_ | (refine GQ.a ?_; refine Q.al (fun b1 => ?_)))
          exact ⟨_, ⟨rfl, rfl, rfl, rfl, rfl, rfl, rfl, rfl, rfl, trivial⟩, Ent.refl _, by simp [hq1]⟩
    intro kp hkp
    have hne : ovs.take (k + 1) = ovs.take k ++ [o] := take_snoc ho
    have hkl : (ovs.take k).length = k := by rw [List.length_take]; omega
    cases kp with
    | true =>
      have hnk := hkp.1 rfl
      repeat (first | (refine GQ.y ?_; refine Q.y ?_) | refine Q.go ?_ | (refine GQ.g ?_; refine Q.gq ?_) | (refine GQ.s ?_; refine Q.st ?_) | (refine GQ.g ?_; refine Q.gd ?_) | refine Q.ct rfl ?_ | refine Q.cf rfl ?_ | (refine GQ.a ?_; refine Q.al (fun b1 => ?_)))
      refine S.app rfl rfl (SrcS.sl RdC.row (by rfl) (by rfl)) (by rfl) (by omega) (by omega) (fun a4 c4 => ?_)
      repeat (first | (refine GQ.y ?_; refine Q.y ?_) | refine Q.go ?_ | (refine GQ.g ?_; refine Q.gq ?_) | (refine GQ.s ?_; refine Q.st ?_) | (refine GQ.g ?_; refine Q.gd ?_) | refine Q.ct rfl ?_ | refine Q.cf rfl ?_ | (refine GQ.a ?_; refine Q.al (fun b1 => ?_)))
      refine ⟨(k + 1, (a4, c4, us ++ [o]), a2, c2, gs), ⟨rfl, rfl, rfl, rfl, congrArg some (by simp), rfl, rfl, trivial⟩, ?_, ⟨by dsimp only; omega, ?_, ?_⟩, by dsimp only; omega⟩
      · dsimp only
        rw [len_snoc, flat_snoc]
        repeat (first | exact Ent.refl _ | exact Ent.nil | refine Ent.pick ?_ | refine Ent.nilS ?_ | refine Ent.nilM ?_ | refine Ent.drop ?_)
      · dsimp only
        rw [hne, List.drop_append_of_le_length (by omega), hus]
      · dsimp only
        rw [hne, List.take_append_of_le_length (by omega), hgs]
    | false =>
      have hnk : ¬ nn ≤ k := fun h => by have := hkp.2 h; cases this
      repeat (first | (refine GQ.y ?_; refine Q.y ?_) | refine Q.go ?_ | (refine GQ.g ?_; refine Q.gq ?_) | (refine GQ.s ?_; refine Q.st ?_) | (refine GQ.g ?_; refine Q.gd ?_) | refine Q.ct rfl ?_ | refine Q.cf rfl ?_ | (refine GQ.a ?_; refine Q.al (fun b1 => ?_)))
      refine S.app rfl rfl (SrcS.sl RdC.row (by rfl) (by rfl)) (by rfl) (by omega) (by omega) (fun a4 c4 => ?_)
      repeat (first | (refine GQ.y ?_; refine Q.y ?_) | refine Q.go ?_ | (refine GQ.g ?_; refine Q.gq ?_) | (refine GQ.s ?_; refine Q.st ?_) | (refine GQ.g ?_; refine Q.gd ?_) | refine Q.ct rfl ?_ | refine Q.cf rfl ?_ | (refine GQ.a ?_; refine Q.al (fun b1 => ?_)))
      refine ⟨(k + 1, (a1, c1, us), a4, c4, gs ++ [o.id]), ⟨rfl, rfl, rfl, rfl, rfl, congrArg some (by simp), rfl, trivial⟩, ?_, ⟨by dsimp only; omega, ?_, ?_⟩, by dsimp only; omega⟩
      · dsimp only
        rw [len_snoc, List.map_append]
        repeat (first | exact Ent.refl _ | exact Ent.nil | refine Ent.pick ?_ | refine Ent.nilS ?_ | refine Ent.nilM ?_ | refine Ent.drop ?_)
      · dsimp only
        rw [hus, List.drop_eq_nil_of_le (by rw [List.length_take]; omega), List.drop_eq_nil_of_le (by rw [List.length_take]; omega)]
      · dsimp only
        rw [hgs, List.take_of_length_le (l := ovs.take k) (i := nn) (by omega), List.take_of_length_le (l := ovs.take (k + 1)) (i := nn) (by rw [List.length_take]; omega), hne, List.map_append]; rfl
  · have hke : k = ovs.length := by omega
    subst hke
    rw [List.take_length] at hus hgs
    subst hus hgs
    repeat (first | (refine GQ.y ?_; refine Q.y ?_) | refine Q.go ?_ | (refine GQ.g ?_; refine Q.gq ?_) | (refine GQ.s ?_; refine Q.st ?_) | (refine GQ.g ?_; refine Q.gd ?_) | refine Q.ct rfl ?_ | refine Q.cf rfl ?_ | (refine GQ.a ?_; refine Q.al (fun b1 => ?_)))
    exact N.r2 (RV.tmp rfl (RV.tmp rfl RV.nil)) (Ent.refl _) ⟨a1, c1, a2, c2, rfl, rfl⟩
set_option maxHeartbeats 2000000 in
theorem RSet0_spec (p : Nat) (dim : Int) (a : Option Addr) (es : List EV) (c : Nat) (a' : Option Addr) (is : List IV) (c' : Nat) (mark id : Int) (na : Option Addr) (nc : Nat) (M : Nat → Option Obj) (A : List HP) (h : SlM M a es.length 2 (es.flatMap EV.cells)) (hn : es.length ≤ 1000000) :
    CallsS Tryz.prog 24 [ptrV p, .int .u64 id, .slice na 0 nc] (rP p dim a es c a' is c' mark :: roM M :: A)
      (fun v L' => ∃ a2 c2, v = .tuple #[] ∧ L' = slO 37 2 a2 (es.filter fun e => !decide (e.id = id)).length c2 ((es.filter fun e => !decide (e.id = id)).flatMap EV.cells) :: rP p dim a2 (es.filter fun e => !decide (e.id = id)) c2 a' is c' mark :: roM M :: A) := by
  refine CallsS.of_body Tryz.func24 rfl rfl rfl ?_
  repeat (first | (refine GQ.y ?_; refine Q.y ?_) | refine Q.go ?_ | (refine GQ.g ?_; refine Q.gq ?_) | (refine GQ.s ?_; refine Q.st ?_) | (refine GQ.g ?_; refine Q.gd ?_) | refine Q.ct rfl ?_ | refine Q.cf rfl ?_ | (refine GQ.a ?_; refine Q.al (fun b1 => ?_)))
  refine swp_cutB (σ := Option Addr × Nat) (fun u => [(0, ptrV p), (1, .int .u64 id), (2, .slice na 0 nc), (6, .slice u.1 (es.filter fun e => !decide (e.id = id)).length u.2), (7, .bool true)])
    (fun u => slO 37 2 u.1 (es.filter fun e => !decide (e.id = id)).length u.2 ((es.filter fun e => !decide (e.id = id)).flatMap EV.cells) :: rP p dim a es c a' is c' mark :: roM M :: A) (fun _ => True) ?_ ?_
  · refine swp_loop (σ := Nat × Option Addr × Nat × List EV) (fun u => [(0, ptrV p), (1, .int .u64 id), (2, .slice na 0 nc), (16, .slice a es.length c), (17, .int .i64 es.length), (6, .slice u.2.1 u.2.2.2.length u.2.2.1), (7, .bool true), (18, .int .i64 u.1)])
      (fun u => slO 37 2 u.2.1 u.2.2.2.length u.2.2.1 (u.2.2.2.flatMap EV.cells) :: rP p dim a es c a' is c' mark :: roM M :: A)
      (fun u => u.1 ≤ es.length ∧ u.2.2.2 = (es.take u.1).filter fun e => !decide (e.id = id)) (fun u => es.length - u.1) (0, none, 0, []) ⟨rfl, rfl, rfl, rfl, rfl, rfl, rfl, rfl, trivial⟩ slO_nil ⟨by omega, by simp⟩ ?_
    rintro ⟨k, a3, c3, us⟩ ⟨hk, hus⟩
    dsimp only at hk hus ⊢
    have hul : us.length ≤ k := by
      rw [hus]
      have := List.length_filter_le (fun e : EV => !decide (e.id = id)) (es.take k)
      rw [List.length_take] at this; omega
    by_cases hlt : k < es.length
    · obtain ⟨e, he⟩ := mem_get hlt
      have hrs : RdS (slO 37 2 a3 us.length c3 (us.flatMap EV.cells) :: rP p dim a es c a' is c' mark :: roM M :: A) a es.length 2 (es.flatMap EV.cells) := h.rd
      obtain ⟨b, oo, hia, hr⟩ := RdS.elem (g := EV.cells) (fun _ => rfl) hrs he rfl
      clear hrs
      rw [hia] at hr ⊢
      have hne : es.take k ++ [e] = es.take (k + 1) := (take_snoc he).symm
      by_cases hq : e.id = id
      · repeat (first | (refine GQ.y ?_; refine Q.y ?_) | refine Q.go ?_ | (refine GQ.g ?_; refine Q.gq ?_) | (refine GQ.s ?_; refine Q.st ?_) | (refine GQ.g ?_; refine Q.gd ?_) | refine Q.ct rfl ?_ | refine Q.cf rfl ?_ | (refine GQ.a ?_; refine Q.al (fun b1 => ?_)))
        refine ⟨(k + 1, a3, c3, us), ⟨rfl, rfl, rfl, rfl, rfl, rfl, rfl, rfl, trivial⟩, by repeat (first | exact Ent.refl _ | exact Ent.nil | refine Ent.pick ?_ | refine Ent.nilS ?_ | refine Ent.nilM ?_ | refine Ent.drop ?_), ⟨by dsimp only; omega, ?_⟩, by dsimp only; omega⟩
        dsimp only
        rw [← hne, List.filter_append, hus]; simp [hq]
      · repeat (first | (refine GQ.y ?_; refine Q.y ?_) | refine Q.go ?_ | (refine GQ.g ?_; refine Q.gq ?_) | (refine GQ.s ?_; refine Q.st ?_) | (refine GQ.g ?_; refine Q.gd ?_) | refine Q.ct rfl ?_ | refine Q.cf rfl ?_ | (refine GQ.a ?_; refine Q.al (fun b1 => ?_)))
        refine S.app rfl rfl (SrcS.sl RdC.row (by rfl) (by rfl)) (by rfl) (by omega) (by omega) (fun a7 c7 => ?_)
        repeat (first | (refine GQ.y ?_; refine Q.y ?_) | refine Q.go ?_ | (refine GQ.g ?_; refine Q.gq ?_) | (refine GQ.s ?_; refine Q.st ?_) | (refine GQ.g ?_; refine Q.gd ?_) | refine Q.ct rfl ?_ | refine Q.cf rfl ?_ | (refine GQ.a ?_; refine Q.al (fun b1 => ?_)))
        refine ⟨(k + 1, a7, c7, us ++ [e]), ⟨rfl, rfl, rfl, rfl, rfl, congrArg some (by simp), rfl, rfl, trivial⟩, ?_, ⟨by dsimp only; omega, ?_⟩, by dsimp only; omega⟩
        · dsimp only
          rw [len_snoc, flat_snoc]
          repeat (first | exact Ent.refl _ | exact Ent.nil | refine Ent.pick ?_ | refine Ent.nilS ?_ | refine Ent.nilM ?_ | refine Ent.drop ?_)
        · dsimp only
          rw [← hne, List.filter_append, hus]; simp [hq]
    · have hke : k = es.length := by omega
      subst hke
      rw [List.take_length] at hus
      subst hus
      repeat (first | (refine GQ.y ?_; refine Q.y ?_) | refine Q.go ?_ | (refine GQ.g ?_; refine Q.gq ?_) | (refine GQ.s ?_; refine Q.st ?_) | (refine GQ.g ?_; refine Q.gd ?_) | refine Q.ct rfl ?_ | refine Q.cf rfl ?_ | (refine GQ.a ?_; refine Q.al (fun b1 => ?_)))
      exact ⟨(a3, c3), ⟨rfl, rfl, rfl, rfl, rfl, trivial⟩, Ent.refl _, trivial⟩
  rintro ⟨a3, c3⟩ -
  dsimp only
  repeat (first | (refine GQ.y ?_; refine Q.y ?_) | refine Q.go ?_ | (refine GQ.g ?_; refine Q.gq ?_) | (refine GQ.s ?_; refine Q.st ?_) | (refine GQ.g ?_; refine Q.gd ?_) | refine Q.ct rfl ?_ | refine Q.cf rfl ?_ | (refine GQ.a ?_; refine Q.al (fun b1 => ?_)))
  exact N.n0 RV.nil (Ent.refl _) ⟨a3, c3, rfl, rfl⟩
theorem ROK.unset {M : Nat → Option Obj} {st : VS} {a a' : Option Addr} {c c' : Nat} {es : List EV} {is : List IV} (h : ROK M st a c es a' c' is) {M2 : Nat → Option Obj} (hl : leM M M2) {a2 : Option Addr} {c2 : Nat} (id : Int)
    (hs : SlM M2 a2 (es.filter fun e => !decide (e.id = id)).length 2 ((es.filter fun e => !decide (e.id = id)).flatMap EV.cells)) (hc : (es.filter fun e => !decide (e.id = id)).length ≤ c2) : ROK M2 { st with ch := delL st.ch id } a2 c2 (es.filter fun e => !decide (e.id = id)) a' c' is := by
  refine ⟨?_, pw_filter h.cs _, h.its, h.ss, fun e he => (h.oe e (List.mem_filter.1 he).1).mono hl, fun i hi => (h.oi i hi).mono hl, hs, h.sI.mono hl, hc, h.cI, delL_ok h.k1 id, h.k2, h.oc⟩
  have := h.ch.filter (fun u => !decide (u.1 = id))
  rw [List.filter_map] at this
  exact this
end Go.Proofs.YtieejgbjgcbbjaaGreat
/- The ref's vault: Sweep. No condition. -/
namespace Go.Proofs.YtieejgbjgcbbjaaGreat
open Go Go.SX
attribute [local irreducible] swp opsS thenS blockS retS CallsS St Ent YieldS anyS drawS
theorem ROK.ids {M : Nat → Option Obj} {st : VS} {a a' : Option Addr} {c c' : Nat} {es : List EV} {is : List IV} (h : ROK M st a c es a' c' is) : swIds st.ch = es.map (·.id) := by
  refine sorted_uniq ((sortL_perm _).trans ?_) (sortL_sorted _) (h.cs.imp fun h => by omega)
  have := (h.ch.map (·.1)).symm
  rw [map_id_key] at this
  exact this
theorem sw1_g {s : Int} {u : List (Int × VL) × GL} {id : Int} {vs : VL} (h : chV u.1 id = vs) : (sw1 s u id).2 = u.2 ++ (vs.take (cutN vs s)).map fun v => (id, v.1) := by
  unfold sw1; rw [h]
theorem sw1_d {s : Int} {u : List (Int × VL) × GL} {id : Int} {vs : VL} (h : chV u.1 id = vs) (h0 : (vs.drop (cutN vs s)).length = 0) : (sw1 s u id).1 = delL u.1 id := by
  unfold sw1; rw [h]; dsimp only; rw [if_pos h0]
theorem sw1_p {s : Int} {u : List (Int × VL) × GL} {id : Int} {vs : VL} (h : chV u.1 id = vs) (h0 : ¬ (vs.drop (cutN vs s)).length = 0) : (sw1 s u id).1 = putL u.1 id (vs.drop (cutN vs s)) := by
  unfold sw1; rw [h]; dsimp only; rw [if_neg h0]
theorem insE_len (es : List EV) (nw : EV) : (insE es nw).length ≤ es.length + 1 := by
  unfold insE
  rw [List.length_append, List.length_cons]
  have e2 : (es.filter fun e => decide (e.id < nw.id)).length + (es.filter fun e => !decide (e.id < nw.id)).length = es.length := by
    have := (List.filter_append_perm (fun e : EV => decide (e.id < nw.id)) es).length_eq
    simpa using this
  have e3 : (es.filter fun e => decide (nw.id < e.id)).length ≤ (es.filter fun e => !decide (e.id < nw.id)).length := by
    rw [← List.countP_eq_length_filter, ← List.countP_eq_length_filter]
    exact List.countP_mono_left fun u hu h => by simp at h ⊢; omega
  omega
set_option maxHeartbeats 4000000 in
theorem RSweep_spec (p : Nat) (st : VS) (n : Nat) (s : Int) (L : List HP) (hw : WF st n) (hn : n ≤ 10000) :
    CallsS Tryz.prog 28 [ptrV p, .int .u64 s] (refH p st :: L) (fun r L' => ∃ a c, r = .slice a (sweepG st s).length c ∧ L' = slO 89 2 a (sweepG st s).length c ((sweepG st s).flatMap gcells) :: refH p (sweepS st s) :: L) := by
  unfold sweepG sweepS
  refine calls_ref fun M a c es a' c' is hok => ?_
  obtain ⟨m, hm⟩ : ∃ m, m = min s 1099511627776 := ⟨_, rfl⟩
  rw [← hm]
  have hel : es.length ≤ 16 * n := by rw [hok.len.2]; exact hw.cl
  refine CallsS.of_body Tryz.func28 rfl rfl rfl ?_
  repeat (first | (refine GQ.y ?_; refine Q.y ?_) | refine Q.go ?_ | (refine GQ.g ?_; refine Q.gq ?_) | (refine GQ.s ?_; refine Q.st ?_) | (refine GQ.a ?_; refine Q.al (fun b1 => ?_)))
  refine swp_cutT (σ := Unit) (fun _ => [(0, ptrV p), (1, .int .u64 m), (5, .slice none 0 0)]) (fun _ => rP p st.dim a es c a' is c' st.mark :: roM M :: L) (fun _ => True) ?_ ?_
  · by_cases h1 : 1099511627776 < s
    · repeat (first | (refine GQ.y ?_; refine Q.y ?_) | refine Q.go ?_ | (refine GQ.g ?_; refine Q.gq ?_) | (refine GQ.s ?_; refine Q.st ?_) | (refine GQ.g ?_; refine Q.gd ?_) | refine Q.ct rfl ?_ | refine Q.cf rfl ?_ | (refine GQ.a ?_; refine Q.al (fun b1 => ?_)))
      exact ⟨(), ⟨rfl, by rw [hm, show min s 1099511627776 = 1099511627776 by omega]; rfl, rfl, trivial⟩, Ent.refl _, trivial⟩
    · repeat (first | (refine GQ.y ?_; refine Q.y ?_) | refine Q.go ?_ | (refine GQ.g ?_; refine Q.gq ?_) | (refine GQ.s ?_; refine Q.st ?_) | (refine GQ.g ?_; refine Q.gd ?_) | refine Q.ct rfl ?_ | refine Q.cf rfl ?_ | (refine GQ.a ?_; refine Q.al (fun b1 => ?_)))
      exact ⟨(), ⟨rfl, by rw [hm, show min s 1099511627776 = s by omega]; rfl, rfl, trivial⟩, Ent.refl _, trivial⟩
  intro _ _
  by_cases h1 : m ≤ st.mark
  · rw [if_pos h1, if_pos h1]
    repeat (first | (refine GQ.y ?_; refine Q.y ?_) | refine Q.go ?_ | (refine GQ.g ?_; refine Q.gq ?_) | (refine GQ.s ?_; refine Q.st ?_) | (refine GQ.g ?_; refine Q.gd ?_) | refine Q.ct rfl ?_ | refine Q.cf rfl ?_ | (refine GQ.a ?_; refine Q.al (fun b1 => ?_)))
    refine N.r1 (RV.tmp rfl RV.nil) ?_ ⟨none, 0, rfl, rfl⟩
    refine Ent.trans ?_ slO_nil
    exact ref_shut hok
  rw [if_neg h1, if_neg h1]
  repeat (first | (refine GQ.y ?_; refine Q.y ?_) | refine Q.go ?_ | (refine GQ.g ?_; refine Q.gq ?_) | (refine GQ.s ?_; refine Q.st ?_) | (refine GQ.g ?_; refine Q.gd ?_) | refine Q.ct rfl ?_ | refine Q.cf rfl ?_ | (refine GQ.a ?_; refine Q.al (fun b1 => ?_)))
  refine opsS_ent (slO_fold (sz := 2) (m := 0) rfl) ?_
  refine S.app0 rfl rfl rfl (SrcS.rd hok.sE.rd (EV_one _)) (by rfl) (by omega) (by omega) (fun a5 c5 => ?_)
  refine opsS_abs a5 (fun M0 hl0 hs5 => ?_)
  repeat (first | (refine GQ.y ?_; refine Q.y ?_) | refine Q.go ?_ | (refine GQ.g ?_; refine Q.gq ?_) | (refine GQ.s ?_; refine Q.st ?_) | (refine GQ.g ?_; refine Q.gd ?_) | refine Q.ct rfl ?_ | refine Q.cf rfl ?_ | (refine GQ.a ?_; refine Q.al (fun b1 => ?_)))
  have hids := hok.ids
  have hik : ∀ (k : Nat) (e : EV), es[k]? = some e → (swIds st.ch)[k]? = some e.id := fun k e he => by rw [hids, List.getElem?_map, he]; rfl
  refine swp_cutB (σ := Option Addr × Nat) (fun u => [(5, .slice u.1 (swF m (swIds st.ch) st.ch).2.length u.2)]) (fun u => slO 89 2 u.1 (swF m (swIds st.ch) st.ch).2.length u.2 ((swF m (swIds st.ch) st.ch).2.flatMap gcells) :: refH p { st with mark := m, ch := (swF m (swIds st.ch) st.ch).1 } :: L) (fun _ => True) ?_ ?_
  · refine swp_loop (σ := Nat × Option Addr × Nat × GL × RX) (fun u => [(0, ptrV p), (1, .int .u64 m), (33, .slice a5 es.length c5), (34, .int .i64 es.length), (5, .slice u.2.1 u.2.2.2.1.length u.2.2.1), (35, .int .i64 u.1)])
      (fun u => slO 89 2 u.2.1 u.2.2.2.1.length u.2.2.1 (u.2.2.2.1.flatMap gcells) :: rP p st.dim u.2.2.2.2.a u.2.2.2.2.es u.2.2.2.2.c u.2.2.2.2.a' u.2.2.2.2.is u.2.2.2.2.c' m :: roM u.2.2.2.2.M :: L)
      (fun u => u.1 ≤ es.length ∧ u.2.2.2.1.length ≤ u.1 * 10000 ∧ leM M0 u.2.2.2.2.M ∧ u.2.2.2.2.es.length ≤ es.length + u.1 ∧ u.2.2.2.1 = (((swIds st.ch).take u.1).foldl (sw1 m) (st.ch, [])).2 ∧ ROK u.2.2.2.2.M { st with mark := m, ch := (((swIds st.ch).take u.1).foldl (sw1 m) (st.ch, [])).1 } u.2.2.2.2.a u.2.2.2.2.c u.2.2.2.2.es u.2.2.2.2.a' u.2.2.2.2.c' u.2.2.2.2.is)
      (fun u => es.length - u.1) (0, none, 0, [], ⟨a, c, es, a', c', is, M0⟩) ⟨rfl, rfl, rfl, rfl, rfl, rfl, trivial⟩ ?_ ⟨by omega, by simp, leM.refl M0, by simp, rfl, ?_⟩ ?_
    · refine Ent.trans ?_ slO_nil
      repeat (first | exact Ent.refl _ | exact Ent.nil | refine Ent.pick ?_ | refine Ent.nilS ?_ | refine Ent.nilM ?_ | refine Ent.drop ?_)
    · exact ⟨hok.ch, hok.cs, hok.its, hok.ss, fun e he => (hok.oe e he).mono hl0, fun i hi => (hok.oi i hi).mono hl0, hok.sE.mono hl0, hok.sI.mono hl0, hok.cE, hok.cI, hok.k1, hok.k2, hok.oc⟩
    rintro ⟨k, a3, c3, g, a1, c1, es1, a1', c1', is1, M1⟩ ⟨hk, hgl, hl1, hes1, hg, hok1⟩
    dsimp only at hk hgl hl1 hes1 hg hok1 ⊢
    by_cases hlt : k < es.length
    · obtain ⟨e, he⟩ := mem_get hlt
      have hme : e ∈ es := List.mem_of_getElem? he
      obtain ⟨vs0, hlk1, hlk2⟩ := swF_at (s := m) hok.k1 (hik k e he)
      have hvs0 : vs0 = e.vs.map OV.abs := by
        have := hok.chain hme
        rw [hlk1] at this
        exact Option.some.inj this
      subst hvs0
      have hco := hw.co _ (lk_memL hlk1)
      have hevl : e.vs.length ≤ n := by have := hco.2.1; simpa using this
      have hoe := (hok.oe e hme).mono (hl0.trans hl1)
      have hcv : chV (((swIds st.ch).take k).foldl (sw1 m) (st.ch, [])).1 e.id = e.vs.map OV.abs := by unfold chV; rw [hlk2]; rfl
      have hstep := foldl_take (sw1 m) (st.ch, []) (hik k e he)
      have hrs : RdS (slO 89 2 a3 g.length c3 (g.flatMap gcells) :: rP p st.dim a1 es1 c1 a1' is1 c1' m :: roM M1 :: L) a5 es.length 2 (es.flatMap EV.cells) := (hs5.mono hl1).rd
      obtain ⟨b, oo, hia, hr⟩ := RdS.elem (g := EV.cells) (fun _ => rfl) hrs he rfl
      clear hrs
      rw [hia]
      repeat (first | (refine GQ.y ?_; refine Q.y ?_) | refine Q.go ?_ | (refine GQ.g ?_; refine Q.gq ?_) | (refine GQ.s ?_; refine Q.st ?_) | (refine GQ.g ?_; refine Q.gd ?_) | refine Q.ct rfl ?_ | refine Q.cf rfl ?_ | (refine GQ.a ?_; refine Q.al (fun b1 => ?_)))
      refine S.cr rfl (RChSweep_spec e.a e.c e.vs m _ hoe.1.rd (by omega) hco.1) ?_
      rintro _ _ ⟨a4, c4, a6, c6, rfl, rfl⟩
      obtain ⟨nn, hnn⟩ : ∃ nn, nn = cutN (e.vs.map OV.abs) m := ⟨_, rfl⟩
      have hnl : nn ≤ e.vs.length := by rw [hnn]; have := cut_le (e.vs.map OV.abs) m; simpa using this
      rw [← hnn]
      refine opsS_addr a6 (fun ha6 => ?_)
      refine opsS_abs a4 (fun M2 hl2 hs4 => ?_)
      repeat (first | (refine GQ.y ?_; refine Q.y ?_) | refine Q.go ?_ | (refine GQ.g ?_; refine Q.gq ?_) | (refine GQ.s ?_; refine Q.st ?_) | (refine GQ.g ?_; refine Q.gd ?_) | refine Q.ct rfl ?_ | refine Q.cf rfl ?_ | (refine GQ.a ?_; refine Q.al (fun b1 => ?_)))
      obtain ⟨gi, hgi⟩ : ∃ gi, gi = (e.vs.take nn).map (·.id) := ⟨_, rfl⟩
      have hgil : gi.length ≤ n := by rw [hgi, List.length_map, List.length_take]; omega
      rw [← hgi] at ha6 ⊢
      refine swp_cutB (σ := Option Addr × Nat) (fun u => [(0, ptrV p), (1, .int .u64 m), (7, .pointer (some ⟨b1, 0, none⟩)), (8, .slice a4 (e.vs.drop nn).length c4), (33, .slice (some ⟨b, oo, none⟩) es.length c5), (34, .int .i64 es.length), (5, .slice u.1 (g ++ gi.map fun x => (e.id, x)).length u.2), (35, .int .i64 k)])
        (fun u => rP p st.dim a1 es1 c1 a1' is1 c1' m :: roM M2 :: slO 89 2 u.1 (g ++ gi.map fun x => (e.id, x)).length u.2 ((g ++ gi.map fun x => (e.id, x)).flatMap gcells) :: pt b1 (cl e.cells 37) :: L) (fun _ => True) ?_ ?_
      · refine swp_loop (σ := Nat × Option Addr × Nat × GL) (fun u => [(0, ptrV p), (1, .int .u64 m), (7, .pointer (some ⟨b1, 0, none⟩)), (8, .slice a4 (e.vs.drop nn).length c4), (33, .slice (some ⟨b, oo, none⟩) es.length c5), (34, .int .i64 es.length), (46, .slice a6 gi.length c6), (47, .int .i64 gi.length), (5, .slice u.2.1 u.2.2.2.length u.2.2.1), (35, .int .i64 k), (48, .int .i64 u.1)])
          (fun u => slO 22 1 a6 gi.length c6 (gi.map U64) :: slO 89 2 u.2.1 u.2.2.2.length u.2.2.1 (u.2.2.2.flatMap gcells) :: pt b1 (cl e.cells 37) :: rP p st.dim a1 es1 c1 a1' is1 c1' m :: roM M2 :: L)
          (fun u => u.1 ≤ gi.length ∧ u.2.2.2 = g ++ (gi.take u.1).map fun x => (e.id, x)) (fun u => gi.length - u.1) (0, a3, c3, g) ⟨rfl, rfl, rfl, rfl, rfl, rfl, rfl, rfl, rfl, rfl, rfl, trivial⟩ (by (try dsimp only); repeat (first | exact Ent.refl _ | exact Ent.nil | refine Ent.pick ?_ | refine Ent.nilS ?_ | refine Ent.nilM ?_ | refine Ent.drop ?_)) ⟨by dsimp only; omega, by simp⟩ ?_
        rintro ⟨j, a7, c7, g7⟩ ⟨hj, hg7⟩
        dsimp only at hj hg7 ⊢
        have hg7l : g7.length = g.length + min j gi.length := by rw [hg7]; simp
        by_cases hjl : j < gi.length
        · obtain ⟨w, hwj⟩ := mem_get hjl
          rcases ha6 with ha6 | ⟨b6, rfl⟩
          · omega
          have hrs : RdS (slO 22 1 (some ⟨b6, 0, none⟩) gi.length c6 (gi.map U64) :: slO 89 2 a7 g7.length c7 (g7.flatMap gcells) :: pt b1 (cl e.cells 37) :: rP p st.dim a1 es1 c1 a1' is1 c1' m :: roM M2 :: L) (some ⟨b6, 0, none⟩) gi.length 1 (gi.flatMap cU) := by
            rw [flat_U]; exact RdS.ofS (by simp) (.inr ⟨b6, rfl⟩)
          obtain ⟨b', o', hbo, hr6⟩ := RdS.elem (g := cU) (fun _ => rfl) hrs hwj rfl
          cases hbo
          clear hrs
          repeat (first | (refine GQ.y ?_; refine Q.y ?_) | refine Q.go ?_ | (refine GQ.g ?_; refine Q.gq ?_) | (refine GQ.s ?_; refine Q.st ?_) | (refine GQ.g ?_; refine Q.gd ?_) | refine Q.ct rfl ?_ | refine Q.cf rfl ?_ | (refine GQ.a ?_; refine Q.al (fun b1 => ?_)))
          refine S.app rfl rfl (SrcS.sl RdC.row (by rfl) (by rfl)) (by rfl) (by omega) (by omega) (fun a8 c8 => ?_)
          repeat (first | (refine GQ.y ?_; refine Q.y ?_) | refine Q.go ?_ | (refine GQ.g ?_; refine Q.gq ?_) | (refine GQ.s ?_; refine Q.st ?_) | (refine GQ.g ?_; refine Q.gd ?_) | refine Q.ct rfl ?_ | refine Q.cf rfl ?_ | (refine GQ.a ?_; refine Q.al (fun b1 => ?_)))
          refine ⟨(j + 1, a8, c8, g7 ++ [(e.id, w)]), ⟨rfl, rfl, rfl, rfl, rfl, rfl, rfl, rfl, congrArg some (by simp), rfl, rfl, trivial⟩, ?_, ⟨by dsimp only; omega, ?_⟩, by dsimp only; omega⟩
          · dsimp only
            rw [len_snoc, flat_snoc]
            repeat (first | exact Ent.refl _ | exact Ent.nil | refine Ent.pick ?_ | refine Ent.nilS ?_ | refine Ent.nilM ?_ | refine Ent.drop ?_)
          · dsimp only
            rw [hg7, take_snoc hwj, List.map_append, List.append_assoc]; rfl
        · have hje : j = gi.length := by omega
          subst hje
          rw [List.take_length] at hg7
          subst hg7
          repeat (first | (refine GQ.y ?_; refine Q.y ?_) | refine Q.go ?_ | (refine GQ.g ?_; refine Q.gq ?_) | (refine GQ.s ?_; refine Q.st ?_) | (refine GQ.g ?_; refine Q.gd ?_) | refine Q.ct rfl ?_ | refine Q.cf rfl ?_ | (refine GQ.a ?_; refine Q.al (fun b1 => ?_)))
          exact ⟨(a7, c7), ⟨rfl, rfl, rfl, rfl, rfl, rfl, rfl, rfl, trivial⟩, by repeat (first | exact Ent.refl _ | exact Ent.nil | refine Ent.pick ?_ | refine Ent.nilS ?_ | refine Ent.nilM ?_ | refine Ent.drop ?_), trivial⟩
      rintro ⟨a7, c7⟩ -
      dsimp only
      have hgg : ((g ++ gi.map fun x => (e.id, x)) : GL).length ≤ (k + 1) * 10000 := by
        rw [List.length_append, List.length_map]; omega
      have hsw : (sw1 m (((swIds st.ch).take k).foldl (sw1 m) (st.ch, [])) e.id).2 = g ++ gi.map fun x => (e.id, x) := by
        rw [sw1_g hcv, ← hnn, ← hg, hgi, ← List.map_take, List.map_map, List.map_map]; rfl
      have hkd : ((e.vs.map OV.abs).drop nn).length = (e.vs.drop nn).length := by simp
      repeat (first | (refine GQ.y ?_; refine Q.y ?_) | refine Q.go ?_ | (refine GQ.g ?_; refine Q.gq ?_) | (refine GQ.s ?_; refine Q.st ?_) | (refine GQ.g ?_; refine Q.gd ?_) | refine Q.ct rfl ?_ | refine Q.cf rfl ?_ | (refine GQ.a ?_; refine Q.al (fun b1 => ?_)))
      by_cases h0 : (e.vs.drop nn).length = 0
      · rw [h0]
        refine S.cr rfl (RSet0_spec p st.dim a1 es1 c1 a1' is1 c1' m e.id a4 c4 M2 _ (hok1.sE.mono hl2) (by omega)) ?_
        rintro _ _ ⟨a9, c9, rfl, rfl⟩
        refine opsS_cap a9 fun hc9 => opsS_abs a9 fun M3 hl3 hs9 => ?_
        have hun := hok1.unset (hl2.trans hl3) e.id hs9 hc9
        have hfl := List.length_filter_le (fun x : EV => !decide (x.id = e.id)) es1
        repeat (first | (refine GQ.y ?_; refine Q.y ?_) | refine Q.go ?_ | (refine GQ.g ?_; refine Q.gq ?_) | (refine GQ.s ?_; refine Q.st ?_) | (refine GQ.g ?_; refine Q.gd ?_) | refine Q.ct rfl ?_ | refine Q.cf rfl ?_ | (refine GQ.a ?_; refine Q.al (fun b1 => ?_)))
        refine ⟨(k + 1, a7, c7, g ++ gi.map (fun x => (e.id, x)), ⟨a9, c9, es1.filter fun x => !decide (x.id = e.id), a1', c1', is1, M3⟩), ⟨rfl, rfl, rfl, rfl, rfl, rfl, trivial⟩, ?_, ⟨by dsimp only; omega, hgg, hl1.trans (hl2.trans hl3), by dsimp only; omega, ?_, ?_⟩, by dsimp only; omega⟩
        · dsimp only
          repeat (first | exact Ent.refl _ | exact Ent.nil | refine Ent.pick ?_ | refine Ent.nilS ?_ | refine Ent.nilM ?_ | refine Ent.drop ?_)
        · dsimp only
          rw [hstep, hsw]
        · dsimp only
          rw [hstep]
          have : (sw1 m (((swIds st.ch).take k).foldl (sw1 m) (st.ch, [])) e.id).1 = delL (((swIds st.ch).take k).foldl (sw1 m) (st.ch, [])).1 e.id := sw1_d hcv (by rw [← hnn, hkd]; exact h0)
          rw [this]
          exact hun
      · obtain ⟨nw, hnw⟩ : ∃ nw : EV, nw = ⟨e.id, a4, c4, e.vs.drop nn⟩ := ⟨_, rfl⟩
        have hSet := fun A => RSet_spec p st.dim a1 es1 c1 a1' is1 c1' m nw M2 A (hok1.sE.mono hl2) (by omega) hok1.cs (by rw [hnw]; dsimp only; omega)
        have hn1 : nw.id = e.id := by rw [hnw]
        have hn2 : nw.a = a4 := by rw [hnw]
        have hn3 : nw.c = c4 := by rw [hnw]
        have hn4 : nw.vs = e.vs.drop nn := by rw [hnw]
        rw [hn1, hn2, hn3, hn4] at hSet
        refine S.cr rfl (hSet _) ?_
        rintro _ _ ⟨a9, c9, rfl, rfl⟩
        refine opsS_cap a9 fun hc9 => opsS_abs a9 fun M3 hl3 hs9 => ?_
        have hput := hok1.put (hl2.trans hl3) (nw := nw) (by rw [hnw]; exact ⟨hs4.mono hl3, fun u hu => (hoe.2 u (List.mem_of_mem_drop hu)).mono (hl2.trans hl3)⟩) hs9 hc9
        have hil2 := insE_len es1 nw
        repeat (first | (refine GQ.y ?_; refine Q.y ?_) | refine Q.go ?_ | (refine GQ.g ?_; refine Q.gq ?_) | (refine GQ.s ?_; refine Q.st ?_) | (refine GQ.g ?_; refine Q.gd ?_) | refine Q.ct rfl ?_ | refine Q.cf rfl ?_ | (refine GQ.a ?_; refine Q.al (fun b1 => ?_)))
        refine ⟨(k + 1, a7, c7, g ++ gi.map (fun x => (e.id, x)), ⟨a9, c9, insE es1 nw, a1', c1', is1, M3⟩), ⟨rfl, rfl, rfl, rfl, rfl, rfl, trivial⟩, ?_, ⟨by dsimp only; omega, hgg, hl1.trans (hl2.trans hl3), by dsimp only; omega, ?_, ?_⟩, by dsimp only; omega⟩
        · dsimp only
          repeat (first | exact Ent.refl _ | exact Ent.nil | refine Ent.pick ?_ | refine Ent.nilS ?_ | refine Ent.nilM ?_ | refine Ent.drop ?_)
        · dsimp only
          rw [hstep, hsw]
        · dsimp only
          rw [hstep]
          have : (sw1 m (((swIds st.ch).take k).foldl (sw1 m) (st.ch, [])) e.id).1 = putL (((swIds st.ch).take k).foldl (sw1 m) (st.ch, [])).1 nw.id (nw.vs.map OV.abs) := by
            rw [sw1_p hcv (by rw [← hnn, hkd]; exact h0), ← hnn, hn1, hn4, List.map_drop]
          rw [this]
          exact hput
    · have hke : k = es.length := by omega
      subst hke
      have hlen : es.length = (swIds st.ch).length := by rw [hids]; simp
      rw [hlen, List.take_length] at hok1 hg
      rw [show (swF m (swIds st.ch) st.ch).2 = g from hg.symm]
      repeat (first | (refine GQ.y ?_; refine Q.y ?_) | refine Q.go ?_ | (refine GQ.g ?_; refine Q.gq ?_) | (refine GQ.s ?_; refine Q.st ?_) | (refine GQ.g ?_; refine Q.gd ?_) | refine Q.ct rfl ?_ | refine Q.cf rfl ?_ | (refine GQ.a ?_; refine Q.al (fun b1 => ?_)))
      exact ⟨(a3, c3), ⟨rfl, trivial⟩, Ent.cons (ref_shut hok1), trivial⟩
  rintro ⟨a3, c3⟩ -
  dsimp only
  repeat (first | (refine GQ.y ?_; refine Q.y ?_) | refine Q.go ?_ | (refine GQ.g ?_; refine Q.gq ?_) | (refine GQ.s ?_; refine Q.st ?_) | (refine GQ.g ?_; refine Q.gd ?_) | refine Q.ct rfl ?_ | refine Q.cf rfl ?_ | (refine GQ.a ?_; refine Q.al (fun b1 => ?_)))
  exact N.r1 (RV.tmp rfl RV.nil) (Ent.refl _) ⟨a3, c3, rfl, rfl⟩
end Go.Proofs.YtieejgbjgcbbjaaGreat
