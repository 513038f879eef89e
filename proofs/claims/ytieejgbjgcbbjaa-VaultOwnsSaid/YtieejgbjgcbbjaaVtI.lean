/- VaultApplies: what the law comes to. No condition. -/
import Derived.Test.YtieejgbjgcbbjaaVtG
set_option linter.unusedVariables false
set_option linter.unusedSimpArgs false
namespace Go.Proofs.Ytieejgbjgcbbjaa
open Go Go.SX
attribute [local irreducible] swp opsS thenS blockS retS CallsS St Ent YieldS anyS drawS
theorem applyC_new {s : Int} : ∀ {ops ch : VL} {chs : List (Int × VL)}, (ops.map (·.1)).Nodup → (∀ u ∈ chs, u.1 ∉ ops.map (·.1)) → applyC s chs ops = chs ++ ops.map fun o => (o.1, [(s, o.2)])
  | [], _, chs, _, _ => by simp [applyC]
  | o :: ops, ch, chs, hn, hd => by
    simp only [List.map_cons, List.nodup_cons] at hn
    have h1 : ∀ u ∈ chs, u.1 ≠ o.1 := fun u hu e => hd u hu (by rw [e]; simp)
    have h2 : putC s chs o = chs ++ [(o.1, [(s, o.2)])] := by
      unfold putC chV
      rw [lkL_none h1, putL_none h1]; rfl
    show applyC s (putC s chs o) ops = _
    rw [h2, applyC_new (ch := ch) hn.2 (fun u hu hm => by
      rcases List.mem_append.1 hu with hu | hu
      · exact hd u hu (by rw [List.map_cons]; exact List.mem_cons_of_mem _ hm)
      · obtain rfl := List.mem_singleton.1 hu
        exact hn.1 hm)]
    simp
theorem applyC_nil {s : Int} {ops : VL} (hn : (ops.map (·.1)).Nodup) : applyC s [] ops = ops.map fun o => (o.1, [(s, o.2)]) := by
  rw [applyC_new (ch := ops) hn (by simp)]; rfl
theorem lk_new {s : Int} : ∀ {ops : VL} {o : Int × List Int}, (ops.map (·.1)).Nodup → o ∈ ops → lkL (ops.map fun o => (o.1, [(s, o.2)])) o.1 = some [(s, o.2)]
  | [], _, _, h => by cases h
  | x :: ops, o, hn, h => by
    simp only [List.map_cons, List.nodup_cons] at hn
    rcases List.mem_cons.1 h with rfl | h
    · simp [lkL]
    · have hne : x.1 ≠ o.1 := fun e => hn.1 (by rw [e]; exact List.mem_map_of_mem h)
      have := lk_new (s := s) hn.2 h
      unfold lkL at this ⊢
      rw [List.map_cons, List.find?_cons]
      simp only [hne, decide_false]
      exact this
/-- What is known when the lock was taken. -/
structure Took (after : Int) (ops : VL) : Prop where
  af : after ≤ 1099511627776
  l1 : 1 ≤ ops.length
  l2 : ops.length ≤ 16
  nd : (ops.map (·.1)).Nodup
  ok : ∀ o ∈ ops, o.2.length ≤ 8 ∧ (0 < o.2.length → rightV o.2 = true)
theorem took {t after : Int} {ops : VL} (h : lockE ⟨2, [], [], 0⟩ t after ops = 0) : Took after ops := by
  unfold lockE at h
  by_cases h1 : 1099511627776 < after
  · rw [if_pos h1] at h; cases h
  rw [if_neg h1] at h
  by_cases h2 : checkV 2 ops ≠ 0
  · rw [if_pos h2] at h; exact absurd h h2
  have h2' : checkV 2 ops = 0 := by
    by_cases hh : checkV 2 ops = 0
    · exact hh
    · exact absurd hh h2
  unfold checkV at h2'
  rw [if_neg (by decide)] at h2'
  by_cases h3 : ops.length = 0
  · rw [if_pos h3] at h2'; cases h2'
  rw [if_neg h3] at h2'
  by_cases h4 : 16 < ops.length
  · rw [if_pos h4] at h2'; cases h2'
  rw [if_neg h4] at h2'
  by_cases h5 : ops.any (badO 2) = true
  · rw [if_pos h5] at h2'; cases h2'
  rw [if_neg h5] at h2'
  by_cases h6 : (ops.map (·.1)).Nodup
  · refine ⟨by omega, by omega, by omega, h6, fun o ho => ?_⟩
    have hb : badO 2 o = false := by
      cases hb : badO 2 o with
      | false => rfl
      | true => exact absurd (List.any_eq_true.2 ⟨o, ho, hb⟩) h5
    unfold badO at hb
    simp only [Bool.or_eq_false_iff, Bool.and_eq_false_iff, decide_eq_false_iff_not, Bool.not_eq_false', Decidable.not_not] at hb
    obtain ⟨_, hb⟩ := hb
    rcases hb with hb | hb
    · exact ⟨by omega, fun h => absurd h hb⟩
    · exact ⟨by omega, fun _ => hb.1⟩
  · rw [if_neg h6] at h2'; cases h2'
theorem tookS {t after : Int} {ops : VL} (h : lockE ⟨2, [], [], 0⟩ t after ops = 0) : lockS ⟨2, [], [], 0⟩ t after ops = ⟨2, [], [(t, after, ops)], 0⟩ := by unfold lockS; rw [if_pos h]; rfl
theorem Took.wf {t after : Int} {ops : VL} (h : Took after ops) : WF ⟨2, [], [(t, after, ops)], 0⟩ 2 :=
  ⟨by simp, by simp, by simp, fun i hi => by obtain rfl := List.mem_singleton.1 hi; exact ⟨h.l2, h.nd, h.ok⟩, by simp, by simp⟩
theorem app_its (t after : Int) (ops : VL) : lkL [(t, after, ops)] t = some (after, ops) := by simp [lkL]
theorem Took.appE {t after s : Int} {ops : VL} (h : Took after ops) (ha : 0 ≤ after) (hs : 0 ≤ s) : applyE ⟨2, [], [(t, after, ops)], 0⟩ t s = if after < s ∧ s ≤ 1099511627776 then 0 else 1 := by
  unfold applyE
  dsimp only
  rw [app_its]
  dsimp only
  by_cases h1 : after < s ∧ s ≤ 1099511627776
  · rw [if_pos h1, if_neg (by omega)]
    rw [if_neg (by
      rw [List.any_eq_true]
      rintro ⟨o, ho, hd⟩
      have := of_decide_eq_true hd
      have h0 : lastS (chV [] o.1) = 0 := rfl
      rw [h0] at this; omega), if_neg (by omega)]
  · rw [if_neg h1, if_pos (by omega)]
theorem Took.appS {t after s : Int} {ops : VL} (h : Took after ops) (hE : applyE ⟨2, [], [(t, after, ops)], 0⟩ t s = 0) : applyS ⟨2, [], [(t, after, ops)], 0⟩ t s = ⟨2, ops.map fun o => (o.1, [(s, o.2)]), [], 0⟩ := by
  unfold applyS
  dsimp only
  rw [app_its]
  dsimp only
  rw [if_pos hE, applyC_nil h.nd]
  simp [delL]
theorem Took.wf2 {after s : Int} {ops : VL} (h : Took after ops) : WF ⟨2, ops.map fun o => (o.1, [(s, o.2)]), [], 0⟩ 2 := by
  refine ⟨by simp, by simp, by simp, by simp, by have := h.l2; simp; omega, fun c hc => ?_⟩
  obtain ⟨o, ho, rfl⟩ := List.mem_map.1 hc
  exact ⟨by simp [sortedV], by simp, fun v hv => by obtain rfl := List.mem_singleton.1 hv; exact (h.ok o ho).1⟩
theorem open0 (ch : List (Int × VL)) {s : Int} (hs : 0 ≤ s) (ids : List Int) : openE ⟨2, ch, [], 0⟩ s ids = 0 := by
  unfold openE blockedV
  rw [if_neg (by simp), if_neg (by show ¬ s < 0; omega)]
theorem Took.get {after s : Int} {ops : VL} (h : Took after ops) (hs : 0 < s) {o : Int × List Int} (ho : o ∈ ops) : getV ⟨2, ops.map fun o => (o.1, [(s, o.2)]), [], 0⟩ o.1 s = o.2 := by
  unfold getV
  rw [if_neg (by rw [open0 _ (by omega)]; decide)]
  unfold chV
  dsimp only
  rw [lk_new h.nd ho]
  simp [atV, aftN]
theorem Took.get1 {after s : Int} {ops : VL} (h : Took after ops) (hs : 0 < s) {o : Int × List Int} (ho : o ∈ ops) : getV ⟨2, ops.map fun o => (o.1, [(s, o.2)]), [], 0⟩ o.1 (s - 1) = [] := by
  unfold getV
  rw [if_neg (by rw [open0 _ (by omega)]; decide)]
  unfold chV
  dsimp only
  rw [lk_new h.nd ho]
  have : ¬ s ≤ s - 1 := by omega
  simp [atV, aftN, this]
theorem Took.last {after s m : Int} {ops : VL} (h : Took after ops) (hs : 0 < s) (h1 : ∀ c ∈ (ops.map fun o => (o.1, [(s, o.2)]) : List (Int × VL)), lastS c.2 ≤ m) (h2 : m = 0 ∨ ∃ c ∈ (ops.map fun o => (o.1, [(s, o.2)]) : List (Int × VL)), lastS c.2 = m) : m = s := by
  rcases h2 with rfl | ⟨c, hc, rfl⟩
  · exfalso
    have hl := h.l1
    cases ops with
    | nil => simp at hl
    | cons o ops =>
      have := h1 (o.1, [(s, o.2)]) (by simp)
      simp [lastS] at this
      omega
  · obtain ⟨o, ho, rfl⟩ := List.mem_map.1 hc
    rfl
end Go.Proofs.Ytieejgbjgcbbjaa
/- VaultApplies, walked. No condition. -/
set_option linter.unusedVariables false
set_option linter.unusedSimpArgs false
namespace Go.Proofs.Ytieejgbjgcbbjaa
open Go Go.SX
attribute [local irreducible] swp opsS thenS blockS retS CallsS St Ent YieldS anyS drawS
theorem opsS_absV (us : List OV) {n : Nat} {ops rest : List Oper} {Q : Post} {f : Env} {L L0 L1 : List HP} {M : Nat → Option Obj} [h : Pick (vecsH us) L L0] [h1 : PickM L0 M L1] (hk : ∀ M', leM M M' → okR M' us → opsS Try.prog n ops rest Q f (roM M' :: L1)) : opsS Try.prog n ops rest Q f L :=
  opsS_ent (h.ent.trans (vecs_abs us)) (opsS_ex fun M' => opsS_all (opsS_pure fun hh => hk M' hh.1 hh.2))
theorem IV_lock {t af : Int} {a : Option Addr} {c : Nat} {us : List OV} : (IV.mk t af a c us).val = .agg #[.int .u64 t, .int .u64 af, .slice a us.length c] := rfl
set_option maxHeartbeats 4000000 in
theorem VaultApplies_spec (a : Option Addr) (c : Nat) (ops : List OV) (t1 s : Int) (M : Nat → Option Obj) (h : RdO [roM M] a ops) (hc : ∀ o ∈ ops, o.vec.length ≤ o.c) (hn : ops.length ≤ 9223372036854775807) (ht : 0 ≤ t1) (hs : 0 ≤ s) (hs2 : s ≤ 18446744073709551615) :
    CallsS Try.prog 4 [.slice a ops.length c, .int .u64 t1, .int .u64 s] [roM M] (fun v _ => v = .bool true) := by
  refine CallsS.of_body Try.func4 rfl rfl rfl ?_
  repeat (first | (refine GQ.y ?_; refine Q.y ?_) | refine Q.go ?_ | (refine GQ.g ?_; refine Q.gq ?_) | (refine GQ.s ?_; refine Q.st ?_) | (refine GQ.g ?_; refine Q.gd ?_) | refine Q.ct rfl ?_ | refine Q.cf rfl ?_ | (refine GQ.a ?_; refine Q.al (fun b1 => ?_)))
  refine S.cr rfl (awake_spec _) ?_
  rintro _ _ ⟨rfl, rfl⟩
  repeat (first | (refine GQ.y ?_; refine Q.y ?_) | refine Q.go ?_ | (refine GQ.g ?_; refine Q.gq ?_) | (refine GQ.s ?_; refine Q.st ?_) | (refine GQ.g ?_; refine Q.gd ?_) | refine Q.ct rfl ?_ | refine Q.cf rfl ?_ | (refine GQ.a ?_; refine Q.al (fun b1 => ?_)))
  refine S.cr rfl (New_spec 2 _ (by decide) (by decide)) ?_
  rintro _ _ ⟨v, rfl, rfl⟩
  repeat (first | (refine GQ.y ?_; refine Q.y ?_) | refine Q.go ?_ | (refine GQ.g ?_; refine Q.gq ?_) | (refine GQ.s ?_; refine Q.st ?_) | (refine GQ.g ?_; refine Q.gd ?_) | refine Q.ct rfl ?_ | refine Q.cf rfl ?_ | (refine GQ.a ?_; refine Q.al (fun b1 => ?_)))
  refine S.cr rfl (Few_spec 16 a c ops _ (h.sub (L := [vaultH v _, roM M])) hc hn (by omega)) ?_
  rintro _ _ ⟨a2, c2, us, hus, rfl, rfl⟩
  repeat (first | (refine GQ.y ?_; refine Q.y ?_) | refine Q.go ?_ | (refine GQ.g ?_; refine Q.gq ?_) | (refine GQ.s ?_; refine Q.st ?_) | (refine GQ.g ?_; refine Q.gd ?_) | refine Q.ct rfl ?_ | refine Q.cf rfl ?_ | (refine GQ.a ?_; refine Q.al (fun b1 => ?_)))
  have hul : us.length ≤ 16 := by
    have := congrArg List.length hus
    simp [fewV] at this; omega
  have huv : ∀ o ∈ us, o.vec.length ≤ 10 := fun o ho => by
    have : o.abs ∈ fewV 16 (ops.map OV.abs) := by rw [← hus]; exact List.mem_map_of_mem ho
    unfold fewV at this
    obtain ⟨x, hx, e⟩ := List.mem_map.1 this
    have e2 : o.vec = x.2.take 10 := (congrArg Prod.snd e).symm
    rw [e2, List.length_take]; omega
  clear hus
  refine opsS_abs a2 (fun M1 hl1 hs1 => ?_)
  refine opsS_absV us (fun M2 hl2 hso => ?_)
  have hus2 : SlM M2 a2 us.length 2 (us.flatMap OV.cells) := hs1.mono hl2
  have hok2 : okI M2 ⟨1, t1, a2, c2, us⟩ := ⟨hus2, hso⟩
  have hm : (IV.mk 1 t1 a2 c2 us).ops.map OV.abs = us.map OV.abs := rfl
  refine S.cv v rfl (Lock_spec v _ ⟨1, t1, a2, c2, us⟩ _ (WF0 2 (by decide) (by decide) 0).ops hok2.rd (by dsimp only; omega) (fun o ho => by have := huv o ho; omega) (by decide)) ?_
  rintro r L' ⟨hr, hL⟩
  by_cases hE : lockE ⟨2, [], [], 0⟩ 1 t1 (us.map OV.abs) = 0
  · have htk := took hE
    replace hr := hr.trans (congrArg (Value.int .i64) hE)
    replace hL := hL.trans (congrArg (fun S => vaultH v S :: _) (tookS hE))
    subst hr hL
    have hae := htk.appE (t := 1) ht hs
    have hwf := htk.wf (t := 1)
    have hlen : us.length = (us.map OV.abs).length := by simp
    have hl1 : 1 ≤ us.length := by rw [hlen]; exact htk.l1
    repeat (first | (refine GQ.y ?_; refine Q.y ?_) | refine Q.go ?_ | (refine GQ.g ?_; refine Q.gq ?_) | (refine GQ.s ?_; refine Q.st ?_) | (refine GQ.g ?_; refine Q.gd ?_) | refine Q.ct rfl ?_ | refine Q.cf rfl ?_ | (refine GQ.a ?_; refine Q.al (fun b1 => ?_)))
    refine S.cr rfl (Apply_spec v _ 2 1 s _ hwf (by decide) hs) ?_
    rintro r L' ⟨hr, hL⟩
    by_cases hd : t1 < s ∧ s ≤ 1099511627776
    · rw [if_pos hd] at hae
      replace hr := hr.trans (congrArg (Value.int .i64) hae)
      replace hL := hL.trans (congrArg (fun S => vaultH v S :: _) (htk.appS hae))
      subst hr hL
      obtain ⟨hd1, hd2⟩ := hd
      have hwf2 := htk.wf2 (s := s)
      have hg : ∀ o ∈ us, getV ⟨2, (us.map OV.abs).map fun o => (o.1, [(s, o.2)]), [], 0⟩ o.id s = o.vec := fun o ho => htk.get (by omega) (o := o.abs) (List.mem_map_of_mem ho)
      have hg1 : ∀ o ∈ us, getV ⟨2, (us.map OV.abs).map fun o => (o.1, [(s, o.2)]), [], 0⟩ o.id (s - 1) = [] := fun o ho => htk.get1 (by omega) (o := o.abs) (List.mem_map_of_mem ho)
      have hop : ∀ s', 0 ≤ s' → ∀ ids, openE ⟨2, (us.map OV.abs).map fun o => (o.1, [(s, o.2)]), [], 0⟩ s' ids = 0 := fun s' h' ids => open0 _ h' ids
      have hla : ∀ m, (∀ c ∈ (VS.mk 2 ((us.map OV.abs).map fun o => (o.1, [(s, o.2)])) [] 0).ch, lastS c.2 ≤ m) → (m = 0 ∨ ∃ c ∈ (VS.mk 2 ((us.map OV.abs).map fun o => (o.1, [(s, o.2)])) [] 0).ch, lastS c.2 = m) → m = s := fun m h1 h2 => htk.last (by omega) h1 h2
      have hdl : (VS.mk 2 ((us.map OV.abs).map fun o => (o.1, [(s, o.2)])) [] 0).ch.length = us.length := by simp
      generalize (VS.mk 2 ((us.map OV.abs).map fun o => (o.1, [(s, o.2)])) [] 0) = S2 at hwf2 hg hg1 hop hla hdl ⊢
      repeat (first | (refine GQ.y ?_; refine Q.y ?_) | refine Q.go ?_ | (refine GQ.g ?_; refine Q.gq ?_) | (refine GQ.s ?_; refine Q.st ?_) | (refine GQ.g ?_; refine Q.gd ?_) | refine Q.ct rfl ?_ | refine Q.cf rfl ?_ | (refine GQ.a ?_; refine Q.al (fun b1 => ?_)))
      refine swp_cutB (σ := Unit) (fun _ => [(2, .int .u64 s), (7, ptrV v), (9, .slice a2 us.length c2)]) (fun _ => vaultH v S2 :: roM M2 :: []) (fun _ => True) ?_ ?_
      · refine swp_loop (σ := Nat) (fun k => [(2, .int .u64 s), (7, ptrV v), (9, .slice a2 us.length c2), (62, .slice a2 us.length c2), (63, .int .i64 us.length), (64, .int .i64 k)])
          (fun _ => vaultH v S2 :: roM M2 :: []) (fun k => k ≤ us.length) (fun k => us.length - k) 0 ⟨rfl, rfl, rfl, rfl, rfl, rfl, trivial⟩ (Ent.refl _) (by omega) ?_
        intro k hk
        by_cases hlt : k < us.length
        · obtain ⟨o, ho⟩ := mem_get hlt
          have hmo : o ∈ us := List.mem_of_getElem? ho
          have hvo := huv o hmo
          have hrs : RdS [vaultH v S2, roM M2] a2 us.length 2 (us.flatMap OV.cells) := hus2.rd
          obtain ⟨b, oo, hia, hr⟩ := RdS.elem (g := OV.cells) (fun _ => rfl) hrs ho rfl
          rw [hia]
          repeat (first | (refine GQ.y ?_; refine Q.y ?_) | refine Q.go ?_ | (refine GQ.g ?_; refine Q.gq ?_) | (refine GQ.s ?_; refine Q.st ?_) | (refine GQ.g ?_; refine Q.gd ?_) | refine Q.ct rfl ?_ | refine Q.cf rfl ?_ | (refine GQ.a ?_; refine Q.al (fun b1 => ?_)))
          have hG := Get_spec v S2 2 o.id s (pt b1 (cl o.cells 47) :: roM M2 :: []) hwf2 (by decide)
          rw [hg o hmo, hop s hs] at hG
          refine S.cv v rfl hG ?_
          rintro _ _ ⟨a5, c5, rfl, rfl⟩
          repeat (first | (refine GQ.y ?_; refine Q.y ?_) | refine Q.go ?_ | (refine GQ.g ?_; refine Q.gq ?_) | (refine GQ.s ?_; refine Q.st ?_) | (refine GQ.g ?_; refine Q.gd ?_) | refine Q.ct rfl ?_ | refine Q.cf rfl ?_ | (refine GQ.a ?_; refine Q.al (fun b1 => ?_)))
          refine S.y (Y.sub rfl rfl) ?_
          rw [wrap_u64 (a := s - 1) (by omega) (by omega)]
          repeat (first | (refine GQ.y ?_; refine Q.y ?_) | refine Q.go ?_ | (refine GQ.g ?_; refine Q.gq ?_) | (refine GQ.s ?_; refine Q.st ?_) | (refine GQ.g ?_; refine Q.gd ?_) | refine Q.ct rfl ?_ | refine Q.cf rfl ?_ | (refine GQ.a ?_; refine Q.al (fun b1 => ?_)))
          have hG := Get_spec v S2 2 o.id (s - 1) (slO 21 1 a5 o.vec.length c5 (o.vec.map I32) :: pt b1 (cl o.cells 47) :: roM M2 :: []) hwf2 (by decide)
          rw [hg1 o hmo, hop (s - 1) (by omega)] at hG
          refine S.cv v rfl hG ?_
          rintro _ _ ⟨a6, c6, rfl, rfl⟩
          repeat (first | (refine GQ.y ?_; refine Q.y ?_) | refine Q.go ?_ | (refine GQ.g ?_; refine Q.gq ?_) | (refine GQ.s ?_; refine Q.st ?_) | (refine GQ.g ?_; refine Q.gd ?_) | refine Q.ct rfl ?_ | refine Q.cf rfl ?_ | (refine GQ.a ?_; refine Q.al (fun b1 => ?_)))
          refine opsS_addr a5 (fun ha5 => ?_)
          refine S.cr rfl (SameVec_spec a5 c5 o.vec o.a o.c o.vec _ (RdS.ofS (by simp) ha5) ((hso o hmo).rd) (by omega)) ?_
          rintro _ _ ⟨rfl, rfl⟩
          repeat (first | (refine GQ.y ?_; refine Q.y ?_) | refine Q.go ?_ | (refine GQ.g ?_; refine Q.gq ?_) | (refine GQ.s ?_; refine Q.st ?_) | (refine GQ.g ?_; refine Q.gd ?_) | refine Q.ct rfl ?_ | refine Q.cf rfl ?_ | (refine GQ.a ?_; refine Q.al (fun b1 => ?_)))
          exact ⟨k + 1, ⟨rfl, rfl, rfl, rfl, rfl, rfl, trivial⟩, by repeat (first | exact Ent.refl _ | exact Ent.nil | refine Ent.pick ?_ | refine Ent.nilS ?_ | refine Ent.nilM ?_ | refine Ent.drop ?_), by omega, by omega⟩
        · have hke : k = us.length := by omega
          subst hke
          repeat (first | (refine GQ.y ?_; refine Q.y ?_) | refine Q.go ?_ | (refine GQ.g ?_; refine Q.gq ?_) | (refine GQ.s ?_; refine Q.st ?_) | (refine GQ.g ?_; refine Q.gd ?_) | refine Q.ct rfl ?_ | refine Q.cf rfl ?_ | (refine GQ.a ?_; refine Q.al (fun b1 => ?_)))
          exact ⟨(), ⟨rfl, rfl, rfl, trivial⟩, Ent.refl _, trivial⟩
      intro _ _
      repeat (first | (refine GQ.y ?_; refine Q.y ?_) | refine Q.go ?_ | (refine GQ.g ?_; refine Q.gq ?_) | (refine GQ.s ?_; refine Q.st ?_) | (refine GQ.g ?_; refine Q.gd ?_) | refine Q.ct rfl ?_ | refine Q.cf rfl ?_ | (refine GQ.a ?_; refine Q.al (fun b1 => ?_)))
      refine S.cr rfl (Last_spec v S2 2 _ hwf2 (by decide)) ?_
      rintro _ _ ⟨⟨m, rfl, hm1, hm2⟩, rfl⟩
      obtain rfl := hla m hm1 hm2
      repeat (first | (refine GQ.y ?_; refine Q.y ?_) | refine Q.go ?_ | (refine GQ.g ?_; refine Q.gq ?_) | (refine GQ.s ?_; refine Q.st ?_) | (refine GQ.g ?_; refine Q.gd ?_) | refine Q.ct rfl ?_ | refine Q.cf rfl ?_ | (refine GQ.a ?_; refine Q.al (fun b1 => ?_)))
      have hD := DumpLen_spec v S2 2 [roM M2] hwf2 (by decide)
      rw [hdl] at hD
      refine S.cr rfl hD ?_
      rintro _ _ ⟨⟨a7, c7, rfl⟩, rfl⟩
      repeat (first | (refine GQ.y ?_; refine Q.y ?_) | refine Q.go ?_ | (refine GQ.g ?_; refine Q.gq ?_) | (refine GQ.s ?_; refine Q.st ?_) | (refine GQ.g ?_; refine Q.gd ?_) | refine Q.ct rfl ?_ | refine Q.cf rfl ?_ | (refine GQ.a ?_; refine Q.al (fun b1 => ?_)))
      exact N.r1 (RV.tmp rfl RV.nil) (Ent.refl _) (by simp)
    · rw [if_neg hd] at hae
      replace hr := hr.trans (congrArg (Value.int .i64) hae)
      rw [applyS_ne (by rw [hae]; decide)] at hL
      subst hr hL
      by_cases hd1 : t1 < s
      · have hd2 : ¬ s ≤ 1099511627776 := fun hh => hd ⟨hd1, hh⟩
        repeat (first | (refine GQ.y ?_; refine Q.y ?_) | refine Q.go ?_ | (refine GQ.g ?_; refine Q.gq ?_) | (refine GQ.s ?_; refine Q.st ?_) | (refine GQ.g ?_; refine Q.gd ?_) | refine Q.ct rfl ?_ | refine Q.cf rfl ?_ | (refine GQ.a ?_; refine Q.al (fun b1 => ?_)))
        have hI := IntentsLen_spec v _ 2 [roM M2] hwf (by decide)
        refine S.cr rfl hI ?_
        rintro _ _ ⟨⟨a7, c7, rfl⟩, rfl⟩
        repeat (first | (refine GQ.y ?_; refine Q.y ?_) | refine Q.go ?_ | (refine GQ.g ?_; refine Q.gq ?_) | (refine GQ.s ?_; refine Q.st ?_) | (refine GQ.g ?_; refine Q.gd ?_) | refine Q.ct rfl ?_ | refine Q.cf rfl ?_ | (refine GQ.a ?_; refine Q.al (fun b1 => ?_)))
        have hD := DumpLen_spec v _ 2 [roM M2] hwf (by decide)
        refine S.cr rfl hD ?_
        rintro _ _ ⟨⟨a8, c8, rfl⟩, rfl⟩
        repeat (first | (refine GQ.y ?_; refine Q.y ?_) | refine Q.go ?_ | (refine GQ.g ?_; refine Q.gq ?_) | (refine GQ.s ?_; refine Q.st ?_) | (refine GQ.g ?_; refine Q.gd ?_) | refine Q.ct rfl ?_ | refine Q.cf rfl ?_ | (refine GQ.a ?_; refine Q.al (fun b1 => ?_)))
        exact N.r1 (RV.tmp rfl RV.nil) (Ent.refl _) (by simp)
      · repeat (first | (refine GQ.y ?_; refine Q.y ?_) | refine Q.go ?_ | (refine GQ.g ?_; refine Q.gq ?_) | (refine GQ.s ?_; refine Q.st ?_) | (refine GQ.g ?_; refine Q.gd ?_) | refine Q.ct rfl ?_ | refine Q.cf rfl ?_ | (refine GQ.a ?_; refine Q.al (fun b1 => ?_)))
        have hI := IntentsLen_spec v _ 2 [roM M2] hwf (by decide)
        refine S.cr rfl hI ?_
        rintro _ _ ⟨⟨a7, c7, rfl⟩, rfl⟩
        repeat (first | (refine GQ.y ?_; refine Q.y ?_) | refine Q.go ?_ | (refine GQ.g ?_; refine Q.gq ?_) | (refine GQ.s ?_; refine Q.st ?_) | (refine GQ.g ?_; refine Q.gd ?_) | refine Q.ct rfl ?_ | refine Q.cf rfl ?_ | (refine GQ.a ?_; refine Q.al (fun b1 => ?_)))
        have hD := DumpLen_spec v _ 2 [roM M2] hwf (by decide)
        refine S.cr rfl hD ?_
        rintro _ _ ⟨⟨a8, c8, rfl⟩, rfl⟩
        repeat (first | (refine GQ.y ?_; refine Q.y ?_) | refine Q.go ?_ | (refine GQ.g ?_; refine Q.gq ?_) | (refine GQ.s ?_; refine Q.st ?_) | (refine GQ.g ?_; refine Q.gd ?_) | refine Q.ct rfl ?_ | refine Q.cf rfl ?_ | (refine GQ.a ?_; refine Q.al (fun b1 => ?_)))
        exact N.r1 (RV.tmp rfl RV.nil) (Ent.refl _) (by simp)
  · replace hr := hr
    subst hr
    repeat (first | (refine GQ.y ?_; refine Q.y ?_) | refine Q.go ?_ | (refine GQ.g ?_; refine Q.gq ?_) | (refine GQ.s ?_; refine Q.st ?_) | (refine GQ.g ?_; refine Q.gd ?_) | refine Q.ct rfl ?_ | refine Q.cf rfl ?_ | (refine GQ.a ?_; refine Q.al (fun b1 => ?_)))
    exact N.r1 (RV.tmp rfl RV.nil) (Ent.refl _) rfl
end Go.Proofs.Ytieejgbjgcbbjaa
