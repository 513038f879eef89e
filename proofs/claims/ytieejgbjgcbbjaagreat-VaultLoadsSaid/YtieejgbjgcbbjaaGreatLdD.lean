/- The ref's vault: Load. No condition. -/
import Derived.Test.YtieejgbjgcbbjaaGreatLdB
set_option linter.unusedVariables false
set_option linter.unusedSimpArgs false
namespace Go.Proofs.YtieejgbjgcbbjaaGreat
open Go Go.SX
attribute [local irreducible] swp opsS thenS blockS retS CallsS St Ent YieldS anyS drawS
set_option maxHeartbeats 1000000 in
theorem RPutE_spec (a : Option Addr) (c : Nat) (ovs : List OV) (o : OV) (L : List HP) (h : RdS L a ovs.length 2 (ovs.flatMap OV.cells)) (ho : RdS L o.a o.vec.length 1 (o.vec.map I32)) (hov : o.vec.length ≤ 10) (hn : ovs.length ≤ 1000000)
    (hE : putE (ovs.map OV.abs) o.id o.vec ≠ 0) (hp : okP (ovs.map OV.abs)) :
    CallsS Tryz.prog 22 [.slice a ovs.length c, o.val] L (fun r L' => (∃ e : Int, e ≠ 0 ∧ r = .tuple #[.slice a ovs.length c, .int .i64 e]) ∧ L' = L) := by
  refine CallsS.of_body Tryz.func22 rfl rfl rfl ?_
  by_cases h1 : o.id < 1
  · repeat (first | (refine GQ.y ?_; refine Q.y ?_) | refine Q.go ?_ | (refine GQ.g ?_; refine Q.gq ?_) | (refine GQ.s ?_; refine Q.st ?_) | (refine GQ.g ?_; refine Q.gd ?_) | refine Q.ct rfl ?_ | refine Q.cf rfl ?_ | (refine GQ.a ?_; refine Q.al (fun b1 => ?_)))
    exact N.r2 (RV.tmp rfl (RV.tmp rfl RV.nil)) (by repeat (first | exact Ent.refl _ | exact Ent.nil | refine Ent.pick ?_ | refine Ent.nilS ?_ | refine Ent.nilM ?_ | refine Ent.drop ?_)) ⟨⟨1, by simp, rfl⟩, rfl⟩
  by_cases h2 : 1099511627776 < o.id
  · repeat (first | (refine GQ.y ?_; refine Q.y ?_) | refine Q.go ?_ | (refine GQ.g ?_; refine Q.gq ?_) | (refine GQ.s ?_; refine Q.st ?_) | (refine GQ.g ?_; refine Q.gd ?_) | refine Q.ct rfl ?_ | refine Q.cf rfl ?_ | (refine GQ.a ?_; refine Q.al (fun b1 => ?_)))
    exact N.r2 (RV.tmp rfl (RV.tmp rfl RV.nil)) (by repeat (first | exact Ent.refl _ | exact Ent.nil | refine Ent.pick ?_ | refine Ent.nilS ?_ | refine Ent.nilM ?_ | refine Ent.drop ?_)) ⟨⟨1, by simp, rfl⟩, rfl⟩
  by_cases h3 : 0 < o.vec.length ∧ rightV o.vec = false
  · obtain ⟨h3a, h3b⟩ := h3
    repeat (first | (refine GQ.y ?_; refine Q.y ?_) | refine Q.go ?_ | (refine GQ.g ?_; refine Q.gq ?_) | (refine GQ.s ?_; refine Q.st ?_) | (refine GQ.g ?_; refine Q.gd ?_) | refine Q.ct rfl ?_ | refine Q.cf rfl ?_ | (refine GQ.a ?_; refine Q.al (fun b1 => ?_)))
    refine S.cr rfl (RRight_spec o.a o.c o.vec _ ho.sub (by omega)) ?_
    rintro _ _ ⟨rfl, rfl⟩
    rw [h3b]
    repeat (first | (refine GQ.y ?_; refine Q.y ?_) | refine Q.go ?_ | (refine GQ.g ?_; refine Q.gq ?_) | (refine GQ.s ?_; refine Q.st ?_) | (refine GQ.g ?_; refine Q.gd ?_) | refine Q.ct rfl ?_ | refine Q.cf rfl ?_ | (refine GQ.a ?_; refine Q.al (fun b1 => ?_)))
    exact N.r2 (RV.tmp rfl (RV.tmp rfl RV.nil)) (by repeat (first | exact Ent.refl _ | exact Ent.nil | refine Ent.pick ?_ | refine Ent.nilS ?_ | refine Ent.nilM ?_ | refine Ent.drop ?_)) ⟨⟨4, by simp, rfl⟩, rfl⟩
  have h4 : ¬ lastS (ovs.map OV.abs) < o.id := fun hl => by
    apply hE
    unfold putE
    rw [if_neg (by omega), if_neg h3, if_neg (by omega)]
  have h5 : ∃ u ∈ ovs, o.id ≤ u.id := by
    unfold lastS at h4
    cases hg : (ovs.map OV.abs).getLast? with
    | none => rw [hg] at h4; simp at h4; omega
    | some l =>
      rw [hg] at h4
      obtain ⟨u, hu, e⟩ := List.mem_map.1 (List.mem_of_getLast? hg)
      refine ⟨u, hu, ?_⟩
      have : u.id = l.1 := congrArg Prod.fst e
      simp at h4
      omega
  repeat (first | (refine GQ.y ?_; refine Q.y ?_) | refine Q.go ?_ | (refine GQ.g ?_; refine Q.gq ?_) | (refine GQ.s ?_; refine Q.st ?_) | (refine GQ.g ?_; refine Q.gd ?_) | refine Q.ct rfl ?_ | refine Q.cf rfl ?_ | (refine GQ.a ?_; refine Q.al (fun b1 => ?_)))
  refine opsS_cutT (σ := Unit) (fun _ => [(0, .slice a ovs.length c), (3, .pointer (some ⟨b1, 0, none⟩)), (26, .bool false)]) (fun _ => pt b1 (cl o.cells 43) :: L) (fun _ => True) ?_ ?_
  · by_cases h0 : 0 < o.vec.length
    · have h3 : rightV o.vec = true := by
        cases hr : rightV o.vec with
        | true => rfl
        | false => exact absurd ⟨h0, hr⟩ h3
      repeat (first | (refine GQ.y ?_; refine Q.y ?_) | refine Q.go ?_ | (refine GQ.g ?_; refine Q.gq ?_) | (refine GQ.s ?_; refine Q.st ?_) | (refine GQ.g ?_; refine Q.gd ?_) | refine Q.ct rfl ?_ | refine Q.cf rfl ?_ | (refine GQ.a ?_; refine Q.al (fun b1 => ?_)))
      refine S.cr rfl (RRight_spec o.a o.c o.vec _ ho.sub (by omega)) ?_
      rintro _ _ ⟨rfl, rfl⟩
      rw [h3]
      repeat (first | (refine GQ.y ?_; refine Q.y ?_) | refine Q.go ?_ | (refine GQ.g ?_; refine Q.gq ?_) | (refine GQ.s ?_; refine Q.st ?_) | (refine GQ.g ?_; refine Q.gd ?_) | refine Q.ct rfl ?_ | refine Q.cf rfl ?_ | (refine GQ.a ?_; refine Q.al (fun b1 => ?_)))
      exact ⟨(), ⟨rfl, rfl, rfl, trivial⟩, Ent.refl _, trivial⟩
    · repeat (first | (refine GQ.y ?_; refine Q.y ?_) | refine Q.go ?_ | (refine GQ.g ?_; refine Q.gq ?_) | (refine GQ.s ?_; refine Q.st ?_) | (refine GQ.g ?_; refine Q.gd ?_) | refine Q.ct rfl ?_ | refine Q.cf rfl ?_ | (refine GQ.a ?_; refine Q.al (fun b1 => ?_)))
      exact ⟨(), ⟨rfl, rfl, by rw [decide_eq_false (by omega)]; rfl, trivial⟩, Ent.refl _, trivial⟩
  intro _ _
  clear hE hp h4 h3 h1 h2
  repeat (first | (refine GQ.y ?_; refine Q.y ?_) | refine Q.go ?_ | (refine GQ.g ?_; refine Q.gq ?_) | (refine GQ.s ?_; refine Q.st ?_) | (refine GQ.g ?_; refine Q.gd ?_) | refine Q.ct rfl ?_ | refine Q.cf rfl ?_ | (refine GQ.a ?_; refine Q.al (fun b1 => ?_)))
  refine swp_loop (σ := Nat) (fun k => [(0, .slice a ovs.length c), (3, .pointer (some ⟨b1, 0, none⟩)), (28, .slice a ovs.length c), (29, .int .i64 ovs.length), (30, .int .i64 k)]) (fun _ => pt b1 (cl o.cells 43) :: L)
    (fun k => k ≤ ovs.length ∧ ∀ u ∈ ovs.take k, u.id < o.id) (fun k => ovs.length - k) 0 ⟨rfl, rfl, rfl, rfl, rfl, trivial⟩ (Ent.refl _) ⟨by omega, by simp⟩ ?_
  rintro k ⟨hk, hall⟩
  by_cases hlt : k < ovs.length
  · obtain ⟨x, hx⟩ := mem_get hlt
    have hrs : RdS (pt b1 (cl o.cells 43) :: L) a ovs.length 2 (ovs.flatMap OV.cells) := h.sub
    obtain ⟨b, oo, hia, hr⟩ := RdS.elem (g := OV.cells) (fun _ => rfl) hrs hx rfl
    clear hrs
    rw [hia]
    clear h5
    by_cases h6 : o.id ≤ x.id
    · repeat (first | (refine GQ.y ?_; refine Q.y ?_) | refine Q.go ?_ | (refine GQ.g ?_; refine Q.gq ?_) | (refine GQ.s ?_; refine Q.st ?_) | (refine GQ.g ?_; refine Q.gd ?_) | refine Q.ct rfl ?_ | refine Q.cf rfl ?_ | (refine GQ.a ?_; refine Q.al (fun b1 => ?_)))
      exact N.r2 (RV.tmp rfl (RV.tmp rfl RV.nil)) (by repeat (first | exact Ent.refl _ | exact Ent.nil | refine Ent.pick ?_ | refine Ent.nilS ?_ | refine Ent.nilM ?_ | refine Ent.drop ?_)) ⟨⟨7, by simp, rfl⟩, rfl⟩
    · repeat (first | (refine GQ.y ?_; refine Q.y ?_) | refine Q.go ?_ | (refine GQ.g ?_; refine Q.gq ?_) | (refine GQ.s ?_; refine Q.st ?_) | (refine GQ.g ?_; refine Q.gd ?_) | refine Q.ct rfl ?_ | refine Q.cf rfl ?_ | (refine GQ.a ?_; refine Q.al (fun b1 => ?_)))
      refine ⟨k + 1, ⟨rfl, rfl, rfl, rfl, rfl, trivial⟩, by repeat (first | exact Ent.refl _ | exact Ent.nil | refine Ent.pick ?_ | refine Ent.nilS ?_ | refine Ent.nilM ?_ | refine Ent.drop ?_), ⟨by omega, fun u hu => ?_⟩, by omega⟩
      rw [take_snoc hx] at hu
      rcases List.mem_append.1 hu with hu | hu
      · exact hall u hu
      · obtain rfl := List.mem_singleton.1 hu
        omega
  · have hke : k = ovs.length := by omega
    subst hke
    rw [List.take_length] at hall
    obtain ⟨u, hu, hh⟩ := h5
    have := hall u hu
    omega
theorem RPutO_spec (a : Option Addr) (c : Nat) (ovs : List OV) (o : OV) (L : List HP) (h : RdS L a ovs.length 2 (ovs.flatMap OV.cells)) (ho : RdS L o.a o.vec.length 1 (o.vec.map I32)) (hoc : o.vec.length ≤ o.c) (hov : o.vec.length ≤ 10) (hn : ovs.length ≤ 1000000)
    (hE : putE (ovs.map OV.abs) o.id o.vec = 0) (hp : okP (ovs.map OV.abs)) :
    CallsS Tryz.prog 22 [.slice a ovs.length c, o.val] L (fun r L' => ∃ a2 c2 a' c', r = .tuple #[.slice a2 (ovs.length + 1) c2, .int .i64 0] ∧ L' = slO 43 2 a2 (ovs.length + 1) c2 (ovs.flatMap OV.cells ++ OV.cells ⟨o.id, a', c', o.vec⟩) :: slO 21 1 a' o.vec.length c' (o.vec.map I32) :: L) := by
  obtain ⟨h1, h2, h3, h4⟩ := putE_0 hE
  have h5 := hp.last
  refine RPut_spec a c ovs o L h ho hoc hov hn (by omega) h2 h3 (fun u hu => ?_)
  have := sorted_last hp.s u.abs (List.mem_map_of_mem hu)
  dsimp only at this
  omega
theorem ldF_bad {dim : Int} {ch l : List (Int × VL)} {e : Int × VL} (h : badE dim ch e = true) : ldF dim ch (e :: l) = none := by
  show (if badE dim ch e then none else ldF dim (ch ++ [e]) l) = none
  rw [h]; rfl
theorem ldF_good {dim : Int} {ch l : List (Int × VL)} {e : Int × VL} (h : badE dim ch e = false) : ldF dim ch (e :: l) = ldF dim (ch ++ [e]) l := by
  show (if badE dim ch e then none else ldF dim (ch ++ [e]) l) = _
  rw [h]; rfl
set_option maxHeartbeats 4000000 in
theorem RLoad_spec (p : Nat) (st : VS) (n : Nat) (mark : Int) (a : Option Addr) (c : Nat) (es : List EV) (M : Nat → Option Obj) (L : List HP) (hw : WF st n) (hnn : n ≤ 10000) (h : SlM M a es.length 2 (es.flatMap EV.cells) ∧ ∀ e ∈ es, okE M e) (hn : es.length ≤ 1000) (hv : ∀ e ∈ es, e.vs.length ≤ 1000 ∧ ∀ o ∈ e.vs, o.vec.length ≤ 10 ∧ o.vec.length ≤ o.c) :
    CallsS Tryz.prog 8 [ptrV p, .int .u64 mark, .slice a es.length c] (refH p st :: roM M :: L) (fun r L' => r = .int .i64 (loadE st mark (es.map EV.abs)) ∧ L' = refH p (loadS st mark (es.map EV.abs)) :: roM M :: L) := by
  refine calls_ref fun Mr ra rc re ra' rc' ri hok => ?_
  refine CallsS.of_body Tryz.func8 rfl rfl rfl ?_
  have fin : Ent (rP p st.dim ra re rc ra' ri rc' st.mark :: roM Mr :: roM M :: L) (refH p st :: roM M :: L) := ref_shut hok
  by_cases hm : 1099511627776 < mark
  · have hE : loadE st mark (es.map EV.abs) = 1 := by unfold loadE; rw [if_pos hm]
    have hS : loadS st mark (es.map EV.abs) = st := by unfold loadS; rw [if_neg (by rw [hE]; simp)]
    rw [hE, hS]
    repeat (first | (refine GQ.y ?_; refine Q.y ?_) | refine Q.go ?_ | (refine GQ.g ?_; refine Q.gq ?_) | (refine GQ.s ?_; refine Q.st ?_) | (refine GQ.g ?_; refine Q.gd ?_) | refine Q.ct rfl ?_ | refine Q.cf rfl ?_ | (refine GQ.a ?_; refine Q.al (fun b1 => ?_)))
    exact N.r1 (RV.tmp rfl RV.nil) fin ⟨rfl, rfl⟩
  have hE1 : loadE st mark (es.map EV.abs) = if (ldF st.dim [] (es.map EV.abs)).isNone then 4 else if 0 < st.ch.length ∨ 0 < st.its.length ∨ 0 < st.mark then 10 else 0 := by unfold loadE; rw [if_neg hm]
  have hbadE : ldF st.dim [] (es.map EV.abs) = none → loadE st mark (es.map EV.abs) = 4 ∧ loadS st mark (es.map EV.abs) = st := fun hb => by
    have e : loadE st mark (es.map EV.abs) = 4 := by rw [hE1, hb]; rfl
    exact ⟨e, by unfold loadS; rw [if_neg (by rw [e]; simp)]⟩
  repeat (first | (refine GQ.y ?_; refine Q.y ?_) | refine Q.go ?_ | (refine GQ.g ?_; refine Q.gq ?_) | (refine GQ.s ?_; refine Q.st ?_) | (refine GQ.g ?_; refine Q.gd ?_) | refine Q.ct rfl ?_ | refine Q.cf rfl ?_ | (refine GQ.a ?_; refine Q.al (fun b1 => ?_)))
  generalize b1 = bw
  refine swp_cutB (σ := (Nat → Option Obj) × Option Addr × Nat × List EV) (fun u => [(0, ptrV p), (7, ptrV bw)]) (fun u => rP bw st.dim u.2.1 u.2.2.2 u.2.2.1 none [] 0 mark :: roM u.1 :: rP p st.dim ra re rc ra' ri rc' st.mark :: roM Mr :: roM M :: L)
    (fun u => ROK u.1 ⟨st.dim, es.map EV.abs, [], mark⟩ u.2.1 u.2.2.1 u.2.2.2 none 0 [] ∧ ldF st.dim [] (es.map EV.abs) = some (es.map EV.abs)) ?_ ?_
  · refine swp_loop (σ := Nat × (Nat → Option Obj) × Option Addr × Nat × List EV) (fun u => [(0, ptrV p), (7, ptrV bw), (25, .slice a es.length c), (26, .int .i64 es.length), (27, .int .i64 u.1)])
      (fun u => rP bw st.dim u.2.2.1 u.2.2.2.2 u.2.2.2.1 none [] 0 mark :: roM u.2.1 :: rP p st.dim ra re rc ra' ri rc' st.mark :: roM Mr :: roM M :: L)
      (fun u => u.1 ≤ es.length ∧ ROK u.2.1 ⟨st.dim, (es.take u.1).map EV.abs, [], mark⟩ u.2.2.1 u.2.2.2.1 u.2.2.2.2 none 0 [] ∧ (∀ e ∈ u.2.2.2.2, 0 < e.vs.length) ∧ ldF st.dim [] (es.map EV.abs) = ldF st.dim ((es.take u.1).map EV.abs) ((es.drop u.1).map EV.abs)) (fun u => es.length - u.1) (0, (fun _ => none), none, 0, []) ⟨rfl, rfl, rfl, rfl, rfl, trivial⟩ ?_ ⟨by omega, ?_, by simp, rfl⟩ ?_
    · dsimp only
      refine Ent.cons (Ent.nilM ?_)
      repeat (first | exact Ent.refl _ | exact Ent.nil | refine Ent.pick ?_ | refine Ent.nilS ?_ | refine Ent.nilM ?_ | refine Ent.drop ?_)
    · exact ⟨by simp, by simp, by simp, by simp, by simp, by simp, ⟨rfl, .inl rfl⟩, ⟨rfl, .inl rfl⟩, by simp, by simp, by simp [keysOK], by simp [keysOK], by simp⟩
    rintro ⟨k, Mw, wa, wc, we⟩ ⟨hk, hokw, hne, hld⟩
    dsimp only at hk hokw hne hld ⊢
    by_cases hlt : k < es.length
    · obtain ⟨e, he⟩ := mem_get hlt
      have hme : e ∈ es := List.mem_of_getElem? he
      have hve := hv e hme
      have hoe := h.2 e hme
      rw [drop_at' he, List.map_cons] at hld
      have hbad : badE st.dim ((es.take k).map EV.abs) e.abs = true → loadE st mark (es.map EV.abs) = 4 ∧ loadS st mark (es.map EV.abs) = st := fun hb => hbadE (by rw [hld, ldF_bad hb])
      have hrs : RdS (rP bw st.dim wa we wc none [] 0 mark :: roM Mw :: rP p st.dim ra re rc ra' ri rc' st.mark :: roM Mr :: roM M :: L) a es.length 2 (es.flatMap EV.cells) := h.1.rd
      obtain ⟨b, oo, hia, hr⟩ := RdS.elem (g := EV.cells) (fun _ => rfl) hrs he rfl
      clear hrs
      rw [hia]
      repeat (first | (refine GQ.y ?_; refine Q.y ?_) | refine Q.go ?_ | (refine GQ.g ?_; refine Q.gq ?_) | (refine GQ.s ?_; refine Q.st ?_) | (refine GQ.g ?_; refine Q.gd ?_) | refine Q.ct rfl ?_ | refine Q.cf rfl ?_ | (refine GQ.a ?_; refine Q.al (fun b1 => ?_)))
      refine swp_cutB (σ := (Nat → Option Obj) × Option Addr × Nat × List OV) (fun u => [(0, ptrV p), (7, ptrV bw), (9, .pointer (some ⟨b1, 0, none⟩)), (10, .slice u.2.1 u.2.2.2.length u.2.2.1), (25, .slice (some ⟨b, oo, none⟩) es.length c), (26, .int .i64 es.length), (27, .int .i64 k)])
        (fun u => slO 43 2 u.2.1 u.2.2.2.length u.2.2.1 (u.2.2.2.flatMap OV.cells) :: roM u.1 :: rP bw st.dim wa we wc none [] 0 mark :: pt b1 (cl e.cells 37) :: rP p st.dim ra re rc ra' ri rc' st.mark :: roM Mr :: roM M :: L)
        (fun u => leM Mw u.1 ∧ okR u.1 u.2.2.2 ∧ u.2.2.2.map OV.abs = e.vs.map OV.abs ∧ putsE [] (e.vs.map OV.abs) = 0 ∧ (e.vs.map OV.abs).any (badD st.dim) = false) ?_ ?_
      · refine swp_loop (σ := Nat × (Nat → Option Obj) × Option Addr × Nat × List OV) (fun u => [(0, ptrV p), (7, ptrV bw), (9, .pointer (some ⟨b1, 0, none⟩)), (25, .slice (some ⟨b, oo, none⟩) es.length c), (26, .int .i64 es.length), (27, .int .i64 k), (32, .slice e.a e.vs.length e.c), (33, .int .i64 e.vs.length), (10, .slice u.2.2.1 u.2.2.2.2.length u.2.2.2.1), (34, .int .i64 u.1)])
          (fun u => slO 43 2 u.2.2.1 u.2.2.2.2.length u.2.2.2.1 (u.2.2.2.2.flatMap OV.cells) :: roM u.2.1 :: rP bw st.dim wa we wc none [] 0 mark :: pt b1 (cl e.cells 37) :: rP p st.dim ra re rc ra' ri rc' st.mark :: roM Mr :: roM M :: L)
          (fun u => u.1 ≤ e.vs.length ∧ leM Mw u.2.1 ∧ okR u.2.1 u.2.2.2.2 ∧ u.2.2.2.2.map OV.abs = (e.vs.take u.1).map OV.abs ∧ okP ((e.vs.take u.1).map OV.abs) ∧ putsE [] (e.vs.map OV.abs) = putsE ((e.vs.take u.1).map OV.abs) ((e.vs.drop u.1).map OV.abs) ∧ ((e.vs.take u.1).map OV.abs).any (badD st.dim) = false) (fun u => e.vs.length - u.1) (0, Mw, none, 0, []) ⟨rfl, rfl, rfl, rfl, rfl, rfl, rfl, rfl, rfl, rfl, trivial⟩ (Ent.trans (by repeat (first | exact Ent.refl _ | exact Ent.nil | refine Ent.pick ?_ | refine Ent.nilS ?_ | refine Ent.nilM ?_ | refine Ent.drop ?_)) slO_nil) ⟨by omega, leM.refl Mw, fun o ho => (by cases ho), rfl, ⟨List.Pairwise.nil, by simp⟩, rfl, rfl⟩ ?_
        rintro ⟨j, M2, a2, c2, ws⟩ ⟨hj, hl2, hwo, hwa, hwp, hpu, hda⟩
        dsimp only at hj hl2 hwo hwa hwp hpu hda ⊢
        have hwl : ws.length = j := by
          have := congrArg List.length hwa
          simp at this; omega
        by_cases hjl : j < e.vs.length
        · obtain ⟨o, ho⟩ := mem_get hjl
          have hmo : o ∈ e.vs := List.mem_of_getElem? ho
          obtain ⟨ho10, hoc⟩ := hve.2 o hmo
          rw [drop_at' ho, List.map_cons, puts_step] at hpu
          have hrs : RdS (slO 43 2 a2 ws.length c2 (ws.flatMap OV.cells) :: roM M2 :: rP bw st.dim wa we wc none [] 0 mark :: pt b1 (cl e.cells 37) :: rP p st.dim ra re rc ra' ri rc' st.mark :: roM Mr :: roM M :: L) e.a e.vs.length 2 (e.vs.flatMap OV.cells) := hoe.1.rd
          obtain ⟨b5, o5, hia5, hr5⟩ := RdS.elem (g := OV.cells) (fun _ => rfl) hrs ho rfl
          clear hrs
          rw [hia5]
          refine swp_addr a2 (fun ha2 => ?_)
          have hst : ((e.vs.take (j + 1)).map OV.abs).any (badD st.dim) = badD st.dim o.abs := by rw [take_snoc ho, List.map_append, List.any_append, hda]; simp
          have hall : badD st.dim o.abs = true → badE st.dim ((es.take k).map EV.abs) e.abs = true := fun hb => by
            unfold badE
            have : e.abs.2.any (badD st.dim) = true := List.any_eq_true.2 ⟨o.abs, List.mem_map_of_mem hmo, hb⟩
            rw [this]; simp
          repeat (first | (refine GQ.y ?_; refine Q.y ?_) | refine Q.go ?_ | (refine GQ.g ?_; refine Q.gq ?_) | (refine GQ.s ?_; refine Q.st ?_) | (refine GQ.g ?_; refine Q.gd ?_) | refine Q.ct rfl ?_ | refine Q.cf rfl ?_ | (refine GQ.a ?_; refine Q.al (fun b1 => ?_)))
          rename_i be
          by_cases hp : putE ((e.vs.take j).map OV.abs) o.id o.vec = 0
          · rw [if_neg (by rw [show putE ((e.vs.take j).map OV.abs) o.abs.1 o.abs.2 = 0 from hp]; simp)] at hpu
            refine S.cr rfl (RPutO_spec a2 c2 ws o _ (RdS.ofS (flat_len2 _) ha2) (hoe.2 o hmo).rd hoc ho10 (by omega) (by rw [hwa]; exact hp) (by rw [hwa]; exact hwp)) ?_
            rintro _ _ ⟨a6, c6, a7, c7, rfl, rfl⟩
            refine opsS_abs a7 (fun M3 hl3 hs7 => ?_)
            have hnx : okP (((e.vs.take (j + 1)).map OV.abs)) := by rw [take_snoc ho, List.map_append]; exact hwp.snoc hp
            by_cases h0 : 0 < o.vec.length
            · by_cases hd : (o.vec.length : Int) = st.dim
              · repeat (first | (refine GQ.y ?_; refine Q.y ?_) | refine Q.go ?_ | (refine GQ.g ?_; refine Q.gq ?_) | (refine GQ.s ?_; refine Q.st ?_) | (refine GQ.g ?_; refine Q.gd ?_) | refine Q.ct rfl ?_ | refine Q.cf rfl ?_ | (refine GQ.a ?_; refine Q.al (fun b1 => ?_)))
                refine Q.dgo [false, false, true, false, false, false, true, false, false] [] [] [0, 1, 2, 3, 4, 5, 6, 7, 8, 9, 10, 11, 12, 13, 14, 15, 16, 17] ?_
                repeat (first | refine D.endA ?_ | refine Q.dy rfl rfl rfl ?_ | refine Q.dp rfl rfl rfl ?_ | refine D.end_ ?_ | refine Q.endH ?_ | (refine D.e rfl rfl rfl ?_; (first | refine S.gskip1 rfl ?_ | refine S.gskip rfl ?_ | refine S.y (Y.gskipU rfl) ?_); refine opsS_nil ?_; refine N.tn ?_) | refine Q.dT rfl rfl rfl ?_ | refine Q.dF rfl rfl rfl ?_ | (refine D.e rfl rfl rfl ?_; (first | (refine GQ.a ?_; refine Q.al (fun b1 => ?_)) | (refine GQ.s ?_; refine Q.st ?_)); refine opsS_nil ?_; refine N.tn ?_))
                repeat (first | (refine GQ.y ?_; refine Q.y ?_) | refine Q.go ?_ | (refine GQ.g ?_; refine Q.gq ?_) | (refine GQ.s ?_; refine Q.st ?_) | (refine GQ.g ?_; refine Q.gd ?_) | refine Q.ct rfl ?_ | refine Q.cf rfl ?_ | (refine GQ.a ?_; refine Q.al (fun b1 => ?_)))
                refine ⟨(j + 1, M3, a6, c6, ws ++ [⟨o.id, a7, c7, o.vec⟩]), ⟨rfl, rfl, rfl, rfl, rfl, rfl, rfl, rfl, congrArg some (by simp), rfl, trivial⟩, ?_, ⟨by dsimp only; omega, hl2.trans hl3, fun w hw2 => ?_, by dsimp only; rw [List.map_append, hwa, take_snoc ho, List.map_append]; rfl, hnx, by dsimp only; rw [hpu, take_snoc ho, List.map_append]; rfl, by dsimp only; rw [hst]; unfold badD; simp; omega⟩, by dsimp only; omega⟩
                · dsimp only
                  rw [len_snoc, flat_snoc]
                  repeat (first | exact Ent.refl _ | exact Ent.nil | refine Ent.pick ?_ | refine Ent.nilS ?_ | refine Ent.nilM ?_ | refine Ent.drop ?_)
                · rcases List.mem_append.1 hw2 with hw2 | hw2
                  · exact (hwo w hw2).mono hl3
                  · obtain rfl := List.mem_singleton.1 hw2
                    exact hs7
              · obtain ⟨e1, e2⟩ := hbad (hall (by unfold badD; simp [h0, hd]))
                rw [e1, e2]
                repeat (first | (refine GQ.y ?_; refine Q.y ?_) | refine Q.go ?_ | (refine GQ.g ?_; refine Q.gq ?_) | (refine GQ.s ?_; refine Q.st ?_) | (refine GQ.g ?_; refine Q.gd ?_) | refine Q.ct rfl ?_ | refine Q.cf rfl ?_ | (refine GQ.a ?_; refine Q.al (fun b1 => ?_)))
                refine Q.dgo [false, false, true, false, false, false, true, false, false] [] [] [0, 1, 2, 3, 4, 5, 6, 7, 8, 9, 10, 11, 12, 13, 14, 15, 16, 17] ?_
                repeat (first | refine D.endA ?_ | refine Q.dy rfl rfl rfl ?_ | refine Q.dp rfl rfl rfl ?_ | refine D.end_ ?_ | refine Q.endH ?_ | (refine D.e rfl rfl rfl ?_; (first | refine S.gskip1 rfl ?_ | refine S.gskip rfl ?_ | refine S.y (Y.gskipU rfl) ?_); refine opsS_nil ?_; refine N.tn ?_) | refine Q.dT rfl rfl rfl ?_ | refine Q.dF rfl rfl rfl ?_ | (refine D.e rfl rfl rfl ?_; (first | (refine GQ.a ?_; refine Q.al (fun b1 => ?_)) | (refine GQ.s ?_; refine Q.st ?_)); refine opsS_nil ?_; refine N.tn ?_))
                repeat (first | (refine GQ.y ?_; refine Q.y ?_) | refine Q.go ?_ | (refine GQ.g ?_; refine Q.gq ?_) | (refine GQ.s ?_; refine Q.st ?_) | (refine GQ.g ?_; refine Q.gd ?_) | refine Q.ct rfl ?_ | refine Q.cf rfl ?_ | (refine GQ.a ?_; refine Q.al (fun b1 => ?_)))
                exact N.r1 (RV.tmp rfl RV.nil) (Ent.trans (by repeat (first | exact Ent.refl _ | exact Ent.nil | refine Ent.pick ?_ | refine Ent.nilS ?_ | refine Ent.nilM ?_ | refine Ent.drop ?_)) fin) ⟨rfl, rfl⟩
            · repeat (first | (refine GQ.y ?_; refine Q.y ?_) | refine Q.go ?_ | (refine GQ.g ?_; refine Q.gq ?_) | (refine GQ.s ?_; refine Q.st ?_) | (refine GQ.g ?_; refine Q.gd ?_) | refine Q.ct rfl ?_ | refine Q.cf rfl ?_ | (refine GQ.a ?_; refine Q.al (fun b1 => ?_)))
              refine Q.dgo [false, false, true, false, false, false, true, false, false] [] [] [0, 1, 2, 3, 4, 5, 6, 7, 8, 9, 10, 11, 12, 13, 14, 15, 16, 17] ?_
              repeat (first | refine D.endA ?_ | refine Q.dy rfl rfl rfl ?_ | refine Q.dp rfl rfl rfl ?_ | refine D.end_ ?_ | refine Q.endH ?_ | (refine D.e rfl rfl rfl ?_; (first | refine S.gskip1 rfl ?_ | refine S.gskip rfl ?_ | refine S.y (Y.gskipU rfl) ?_); refine opsS_nil ?_; refine N.tn ?_) | refine Q.dT rfl rfl rfl ?_ | refine Q.dF rfl rfl rfl ?_ | (refine D.e rfl rfl rfl ?_; (first | (refine GQ.a ?_; refine Q.al (fun b1 => ?_)) | (refine GQ.s ?_; refine Q.st ?_)); refine opsS_nil ?_; refine N.tn ?_))
              repeat (first | (refine GQ.y ?_; refine Q.y ?_) | refine Q.go ?_ | (refine GQ.g ?_; refine Q.gq ?_) | (refine GQ.s ?_; refine Q.st ?_) | (refine GQ.g ?_; refine Q.gd ?_) | refine Q.ct rfl ?_ | refine Q.cf rfl ?_ | (refine GQ.a ?_; refine Q.al (fun b1 => ?_)))
              refine ⟨(j + 1, M3, a6, c6, ws ++ [⟨o.id, a7, c7, o.vec⟩]), ⟨rfl, rfl, rfl, rfl, rfl, rfl, rfl, rfl, congrArg some (by simp), rfl, trivial⟩, ?_, ⟨by dsimp only; omega, hl2.trans hl3, fun w hw2 => ?_, by dsimp only; rw [List.map_append, hwa, take_snoc ho, List.map_append]; rfl, hnx, by dsimp only; rw [hpu, take_snoc ho, List.map_append]; rfl, by dsimp only; rw [hst]; unfold badD; simp; omega⟩, by dsimp only; omega⟩
              · dsimp only
                rw [len_snoc, flat_snoc]
                repeat (first | exact Ent.refl _ | exact Ent.nil | refine Ent.pick ?_ | refine Ent.nilS ?_ | refine Ent.nilM ?_ | refine Ent.drop ?_)
              · rcases List.mem_append.1 hw2 with hw2 | hw2
                · exact (hwo w hw2).mono hl3
                · obtain rfl := List.mem_singleton.1 hw2
                  exact hs7
          · rw [if_pos hp] at hpu
            have hb : badE st.dim ((es.take k).map EV.abs) e.abs = true := by
              unfold badE
              have h8 : decide (putsE [] e.abs.2 ≠ 0) = true := decide_eq_true (by rw [show putsE [] e.abs.2 = putE ((e.vs.take j).map OV.abs) o.abs.1 o.abs.2 from hpu]; exact hp)
              rw [h8]
              simp
            refine S.cr rfl (RPutE_spec a2 c2 ws o _ (RdS.ofS (flat_len2 _) ha2) (hoe.2 o hmo).rd ho10 (by omega) (by rw [hwa]; exact hp) (by rw [hwa]; exact hwp)) ?_
            rintro _ _ ⟨⟨pe, hpe, rfl⟩, rfl⟩
            obtain ⟨e1, e2⟩ := hbad hb
            rw [e1, e2]
            repeat (first | (refine GQ.y ?_; refine Q.y ?_) | refine Q.go ?_ | (refine GQ.g ?_; refine Q.gq ?_) | (refine GQ.s ?_; refine Q.st ?_) | (refine GQ.g ?_; refine Q.gd ?_) | refine Q.ct rfl ?_ | refine Q.cf rfl ?_ | (refine GQ.a ?_; refine Q.al (fun b1 => ?_)))
            refine Q.dgo [true, false, false, false, true, false, false, false] [] [] [0, 1, 2, 3, 4, 5, 6, 7, 8, 9, 10, 11, 12, 13, 14, 15, 16, 17] ?_
            repeat (first | refine D.endA ?_ | refine Q.dy rfl rfl rfl ?_ | refine Q.dp rfl rfl rfl ?_ | refine D.end_ ?_ | refine Q.endH ?_ | (refine D.e rfl rfl rfl ?_; (first | refine S.gskip1 rfl ?_ | refine S.gskip rfl ?_ | refine S.y (Y.gskipU rfl) ?_); refine opsS_nil ?_; refine N.tn ?_) | refine Q.dT rfl rfl rfl ?_ | refine Q.dF rfl rfl rfl ?_ | (refine D.e rfl rfl rfl ?_; (first | (refine GQ.a ?_; refine Q.al (fun b1 => ?_)) | (refine GQ.s ?_; refine Q.st ?_)); refine opsS_nil ?_; refine N.tn ?_))
            repeat (first | (refine GQ.y ?_; refine Q.y ?_) | refine Q.go ?_ | (refine GQ.g ?_; refine Q.gq ?_) | (refine GQ.s ?_; refine Q.st ?_) | (refine GQ.g ?_; refine Q.gd ?_) | refine Q.ct rfl ?_ | refine Q.cf rfl ?_ | (refine GQ.a ?_; refine Q.al (fun b1 => ?_)))
            exact N.r1 (RV.tmp rfl RV.nil) (Ent.trans (by repeat (first | exact Ent.refl _ | exact Ent.nil | refine Ent.pick ?_ | refine Ent.nilS ?_ | refine Ent.nilM ?_ | refine Ent.drop ?_)) fin) ⟨rfl, rfl⟩
        · have hje : j = e.vs.length := by omega
          subst hje
          rw [List.take_length] at hwa hwp hpu hda
          rw [List.drop_length] at hpu
          repeat (first | (refine GQ.y ?_; refine Q.y ?_) | refine Q.go ?_ | (refine GQ.g ?_; refine Q.gq ?_) | (refine GQ.s ?_; refine Q.st ?_) | (refine GQ.g ?_; refine Q.gd ?_) | refine Q.ct rfl ?_ | refine Q.cf rfl ?_ | (refine GQ.a ?_; refine Q.al (fun b1 => ?_)))
          exact ⟨(M2, a2, c2, ws), ⟨rfl, rfl, rfl, rfl, rfl, rfl, rfl, trivial⟩, by repeat (first | exact Ent.refl _ | exact Ent.nil | refine Ent.pick ?_ | refine Ent.nilS ?_ | refine Ent.nilM ?_ | refine Ent.drop ?_), hl2, hwo, hwa, hpu, hda⟩
      rintro ⟨M2, a2, c2, ws⟩ ⟨hl2, hwo, hwa, hpu, hda⟩
      dsimp only at hl2 hwo hwa hpu hda ⊢
      have hwl : ws.length = e.vs.length := by
        have := congrArg List.length hwa
        simpa using this
      by_cases hA : 1099511627776 < e.id
      · obtain ⟨e1, e2⟩ := hbad (by unfold badE; simp [hA])
        rw [e1, e2]
        repeat (first | (refine GQ.y ?_; refine Q.y ?_) | refine Q.go ?_ | (refine GQ.g ?_; refine Q.gq ?_) | (refine GQ.s ?_; refine Q.st ?_) | (refine GQ.g ?_; refine Q.gd ?_) | refine Q.ct rfl ?_ | refine Q.cf rfl ?_ | (refine GQ.a ?_; refine Q.al (fun b1 => ?_)))
        exact N.r1 (RV.tmp rfl RV.nil) (Ent.trans (by repeat (first | exact Ent.refl _ | exact Ent.nil | refine Ent.pick ?_ | refine Ent.nilS ?_ | refine Ent.nilM ?_ | refine Ent.drop ?_)) fin) ⟨rfl, rfl⟩
      by_cases hC : ws.length = 0
      · obtain ⟨e1, e2⟩ := hbad (by
          have h8 : decide (e.abs.2.length = 0) = true := decide_eq_true (by rw [← hwl.symm.trans hC, List.length_map])
          unfold badE
          rw [h8]; simp)
        rw [e1, e2]
        repeat (first | (refine GQ.y ?_; refine Q.y ?_) | refine Q.go ?_ | (refine GQ.g ?_; refine Q.gq ?_) | (refine GQ.s ?_; refine Q.st ?_) | (refine GQ.g ?_; refine Q.gd ?_) | refine Q.ct rfl ?_ | refine Q.cf rfl ?_ | (refine GQ.a ?_; refine Q.al (fun b1 => ?_)))
        exact N.r1 (RV.tmp rfl RV.nil) (Ent.trans (by repeat (first | exact Ent.refl _ | exact Ent.nil | refine Ent.pick ?_ | refine Ent.nilS ?_ | refine Ent.nilM ?_ | refine Ent.drop ?_)) fin) ⟨rfl, rfl⟩
      have hwel : we.length ≤ 1000 := by
        have h8 := hokw.len.2
        dsimp only at h8
        rw [List.length_map, List.length_take] at h8
        omega
      repeat (first | (refine GQ.y ?_; refine Q.y ?_) | refine Q.go ?_ | (refine GQ.g ?_; refine Q.gq ?_) | (refine GQ.s ?_; refine Q.st ?_) | (refine GQ.g ?_; refine Q.gd ?_) | refine Q.ct rfl ?_ | refine Q.cf rfl ?_ | (refine GQ.a ?_; refine Q.al (fun b1 => ?_)))
      refine opsS_ent (L' := rP bw st.dim wa we wc none [] 0 mark :: roM M2 :: slO 43 2 a2 ws.length c2 (ws.flatMap OV.cells) :: pt b1 (cl e.cells 37) :: rP p st.dim ra re rc ra' ri rc' st.mark :: roM Mr :: roM M :: L) (by repeat (first | exact Ent.refl _ | exact Ent.nil | refine Ent.pick ?_ | refine Ent.nilS ?_ | refine Ent.nilM ?_ | refine Ent.drop ?_)) ?_
      refine S.cr rfl (RChain_spec bw st.dim wa we wc none [] 0 mark e.id M2 _ (hokw.sE.mono hl2) (by omega)) ?_
      rintro _ _ ⟨⟨f, hf, hfi, rfl⟩ | ⟨rfl, hno⟩, rfl⟩
      · have hfl := hne f hf
        obtain ⟨e1, e2⟩ := hbad (by
          have h8 := hokw.chain hf
          rw [hfi] at h8
          unfold badE
          rw [show lkL ((es.take k).map EV.abs) e.abs.1 = some (f.vs.map OV.abs) from h8]
          simp)
        rw [e1, e2]
        repeat (first | (refine GQ.y ?_; refine Q.y ?_) | refine Q.go ?_ | (refine GQ.g ?_; refine Q.gq ?_) | (refine GQ.s ?_; refine Q.st ?_) | (refine GQ.g ?_; refine Q.gd ?_) | refine Q.ct rfl ?_ | refine Q.cf rfl ?_ | (refine GQ.a ?_; refine Q.al (fun b1 => ?_)))
        exact N.r1 (RV.tmp rfl RV.nil) (Ent.trans (by repeat (first | exact Ent.refl _ | exact Ent.nil | refine Ent.pick ?_ | refine Ent.nilS ?_ | refine Ent.nilM ?_ | refine Ent.drop ?_)) fin) ⟨rfl, rfl⟩
      have hnoc := hokw.noC hno
      have hgb : badE st.dim ((es.take k).map EV.abs) e.abs = false := by
        have h8 : decide (e.abs.2.length = 0) = false := decide_eq_false (by rw [List.length_map, ← hwl]; exact hC)
        have h9 : decide (putsE [] e.abs.2 ≠ 0) = false := decide_eq_false (by rw [show putsE [] e.abs.2 = 0 from hpu]; simp)
        unfold badE
        rw [h8, h9, show e.abs.2.any (badD st.dim) = false from hda, show lkL ((es.take k).map EV.abs) e.abs.1 = none from hnoc]
        simp [hA]
      rw [ldF_good hgb] at hld
      repeat (first | (refine GQ.y ?_; refine Q.y ?_) | refine Q.go ?_ | (refine GQ.g ?_; refine Q.gq ?_) | (refine GQ.s ?_; refine Q.st ?_) | (refine GQ.g ?_; refine Q.gd ?_) | refine Q.ct rfl ?_ | refine Q.cf rfl ?_ | (refine GQ.a ?_; refine Q.al (fun b1 => ?_)))
      refine opsS_cap a2 fun hc2 => opsS_abs a2 (fun M3 hl3 hs3 => ?_)
      refine opsS_ent (L' := rP bw st.dim wa we wc none [] 0 mark :: roM M3 :: pt b1 (cl e.cells 37) :: rP p st.dim ra re rc ra' ri rc' st.mark :: roM Mr :: roM M :: L) (by repeat (first | exact Ent.refl _ | exact Ent.nil | refine Ent.pick ?_ | refine Ent.nilS ?_ | refine Ent.nilM ?_ | refine Ent.drop ?_)) ?_
      refine S.cr rfl (RSet_spec bw st.dim wa we wc none [] 0 mark ⟨e.id, a2, c2, ws⟩ M3 _ (hokw.sE.mono (hl2.trans hl3)) (by omega) hokw.cs (by dsimp only; omega)) ?_
      rintro _ _ ⟨a7, c7, rfl, rfl⟩
      refine opsS_cap a7 fun hc7 => opsS_abs a7 (fun M4 hl4 hs7 => ?_)
      have hokn := hokw.put (hl2.trans (hl3.trans hl4)) (nw := ⟨e.id, a2, c2, ws⟩) ⟨hs3.mono hl4, fun o ho => (hwo o ho).mono (hl3.trans hl4)⟩ hs7 hc7
      dsimp only at hokn
      rw [putL_none (lk_none' hnoc), hwa, show ((es.take k).map EV.abs ++ [(e.id, e.vs.map OV.abs)]) = (es.take (k + 1)).map EV.abs by rw [take_snoc he, List.map_append]; rfl] at hokn
      repeat (first | (refine GQ.y ?_; refine Q.y ?_) | refine Q.go ?_ | (refine GQ.g ?_; refine Q.gq ?_) | (refine GQ.s ?_; refine Q.st ?_) | (refine GQ.g ?_; refine Q.gd ?_) | refine Q.ct rfl ?_ | refine Q.cf rfl ?_ | (refine GQ.a ?_; refine Q.al (fun b1 => ?_)))
      refine ⟨(k + 1, M4, a7, c7, insE we ⟨e.id, a2, c2, ws⟩), ⟨rfl, rfl, rfl, rfl, rfl, trivial⟩, by repeat (first | exact Ent.refl _ | exact Ent.nil | refine Ent.pick ?_ | refine Ent.nilS ?_ | refine Ent.nilM ?_ | refine Ent.drop ?_), ⟨by dsimp only; omega, hokn, fun f hf => ?_, by dsimp only; rw [hld, take_snoc he, List.map_append]; rfl⟩, by dsimp only; omega⟩
      rcases insE_mem hf with rfl | ⟨hf, _⟩
      · dsimp only; omega
      · exact hne f hf
    · have hke : k = es.length := by omega
      subst hke
      rw [List.take_length] at hokw hld
      rw [List.drop_length] at hld
      repeat (first | (refine GQ.y ?_; refine Q.y ?_) | refine Q.go ?_ | (refine GQ.g ?_; refine Q.gq ?_) | (refine GQ.s ?_; refine Q.st ?_) | (refine GQ.g ?_; refine Q.gd ?_) | refine Q.ct rfl ?_ | refine Q.cf rfl ?_ | (refine GQ.a ?_; refine Q.al (fun b1 => ?_)))
      exact ⟨(Mw, wa, wc, we), ⟨rfl, rfl, trivial⟩, by repeat (first | exact Ent.refl _ | exact Ent.nil | refine Ent.pick ?_ | refine Ent.nilS ?_ | refine Ent.nilM ?_ | refine Ent.drop ?_), hokw, hld⟩
  rintro ⟨Mw, wa, wc, we⟩ ⟨hokw, hld⟩
  dsimp only at hokw hld ⊢
  rw [hld] at hE1
  simp only [Option.isNone_some, Bool.false_eq_true, if_false] at hE1
  have hcl : re.length = st.ch.length := hok.len.2
  have hil : ri.length = st.its.length := hok.len.1
  have hS : loadE st mark (es.map EV.abs) ≠ 0 → loadS st mark (es.map EV.abs) = st := fun h0 => by unfold loadS; rw [if_neg h0]
  by_cases k1 : 0 < st.ch.length
  · have e1 : loadE st mark (es.map EV.abs) = 10 := by rw [hE1, if_pos (.inl k1)]
    rw [hS (by rw [e1]; simp), e1]
    repeat (first | (refine GQ.y ?_; refine Q.y ?_) | refine Q.go ?_ | (refine GQ.g ?_; refine Q.gq ?_) | (refine GQ.s ?_; refine Q.st ?_) | (refine GQ.g ?_; refine Q.gd ?_) | refine Q.ct rfl ?_ | refine Q.cf rfl ?_ | (refine GQ.a ?_; refine Q.al (fun b1 => ?_)))
    exact N.r1 (RV.tmp rfl RV.nil) (Ent.trans (by repeat (first | exact Ent.refl _ | exact Ent.nil | refine Ent.pick ?_ | refine Ent.nilS ?_ | refine Ent.nilM ?_ | refine Ent.drop ?_)) fin) ⟨rfl, rfl⟩
  by_cases k2 : 0 < st.its.length
  · have e1 : loadE st mark (es.map EV.abs) = 10 := by rw [hE1, if_pos (.inr (.inl k2))]
    rw [hS (by rw [e1]; simp), e1]
    repeat (first | (refine GQ.y ?_; refine Q.y ?_) | refine Q.go ?_ | (refine GQ.g ?_; refine Q.gq ?_) | (refine GQ.s ?_; refine Q.st ?_) | (refine GQ.g ?_; refine Q.gd ?_) | refine Q.ct rfl ?_ | refine Q.cf rfl ?_ | (refine GQ.a ?_; refine Q.al (fun b1 => ?_)))
    exact N.r1 (RV.tmp rfl RV.nil) (Ent.trans (by repeat (first | exact Ent.refl _ | exact Ent.nil | refine Ent.pick ?_ | refine Ent.nilS ?_ | refine Ent.nilM ?_ | refine Ent.drop ?_)) fin) ⟨rfl, rfl⟩
  by_cases k3 : 0 < st.mark
  · have e1 : loadE st mark (es.map EV.abs) = 10 := by rw [hE1, if_pos (.inr (.inr k3))]
    rw [hS (by rw [e1]; simp), e1]
    repeat (first | (refine GQ.y ?_; refine Q.y ?_) | refine Q.go ?_ | (refine GQ.g ?_; refine Q.gq ?_) | (refine GQ.s ?_; refine Q.st ?_) | (refine GQ.g ?_; refine Q.gd ?_) | refine Q.ct rfl ?_ | refine Q.cf rfl ?_ | (refine GQ.a ?_; refine Q.al (fun b1 => ?_)))
    exact N.r1 (RV.tmp rfl RV.nil) (Ent.trans (by repeat (first | exact Ent.refl _ | exact Ent.nil | refine Ent.pick ?_ | refine Ent.nilS ?_ | refine Ent.nilM ?_ | refine Ent.drop ?_)) fin) ⟨rfl, rfl⟩
  have e1 : loadE st mark (es.map EV.abs) = 0 := by rw [hE1, if_neg (by omega)]
  have e2 : loadS st mark (es.map EV.abs) = ⟨st.dim, es.map EV.abs, [], mark⟩ := by
    unfold loadS
    rw [if_pos e1, (load_ok e1).2.2.2]
  rw [e1, e2]
  repeat (first | (refine GQ.y ?_; refine Q.y ?_) | refine Q.go ?_ | (refine GQ.g ?_; refine Q.gq ?_) | (refine GQ.s ?_; refine Q.st ?_) | (refine GQ.g ?_; refine Q.gd ?_) | refine Q.ct rfl ?_ | refine Q.cf rfl ?_ | (refine GQ.a ?_; refine Q.al (fun b1 => ?_)))
  refine N.r1 (RV.tmp rfl RV.nil) (Ent.trans ?_ (ref_shut hokw)) ⟨rfl, rfl⟩
  repeat (first | exact Ent.refl _ | exact Ent.nil | refine Ent.pick ?_ | refine Ent.nilS ?_ | refine Ent.nilM ?_ | refine Ent.drop ?_)
end Go.Proofs.YtieejgbjgcbbjaaGreat
/- VaultLoads: the law, walked. No condition. -/
namespace Go.Proofs.YtieejgbjgcbbjaaGreat
open Go Go.SX
attribute [local irreducible] swp opsS thenS blockS retS CallsS St Ent YieldS anyS drawS
def EOK (M : Nat → Option Obj) (e : EV) : Prop := okE M e ∧ e.vs.length ≤ 9223372036854775807 ∧ ∀ o ∈ e.vs, o.vec.length ≤ o.c
def EBK (M : Nat → Option Obj) (e : EV) : Prop := okE M e ∧ e.vs.length ≤ 6 ∧ ∀ o ∈ e.vs, o.vec.length ≤ 9 ∧ o.vec.length ≤ o.c
theorem EBK.mono {M M' : Nat → Option Obj} {e : EV} (h : EBK M e) (hl : leM M M') : EBK M' e := ⟨h.1.mono hl, h.2⟩
theorem ref_perm {p : Nat} {st st' : VS} {L : List HP} (hd : st'.dim = st.dim) (hm : st'.mark = st.mark) (hi : st'.its = st.its) (hp : st.ch.Perm st'.ch) (hk : keysOK st'.ch) : Ent (refH p st :: L) (refH p st' :: L) := by
  refine Ent.ex fun x => Ent.open_all.trans (Ent.pure fun hx => ?_)
  have h2 : ROK x.M st' x.a x.c x.es x.a' x.c' x.is := ⟨hx.ch.trans hp, hx.cs, by rw [hi]; exact hx.its, hx.ss, hx.oe, hx.oi, hx.sE, hx.sI, hx.cE, hx.cI, hk, by rw [hi]; exact hx.k2, hx.oc⟩
  have h3 := ref_shut (p := p) (L := L) h2
  rw [hd, hm] at h3
  exact h3
set_option maxHeartbeats 4000000 in
theorem VaultLoads_spec (dm mark : Int) (a : Option Addr) (c : Nat) (es : List EV) (a' : Option Addr) (c' : Nat) (xs : List DV) (M : Nat → Option Obj)
    (h : SlM M a es.length 2 (es.flatMap EV.cells)) (he : ∀ e ∈ es, EOK M e) (hn : es.length ≤ 9223372036854775807) (hd0 : 0 ≤ dm) (hd1 : dm ≤ 255)
    (h' : SlM M a' xs.length 8 (xs.flatMap DV.cells)) (hx : ∀ o ∈ xs, DOK M o) (hn' : xs.length ≤ 9223372036854775807) :
    CallsS Tryz.prog 3 [.int .u8 dm, .int .u64 mark, .slice a es.length c, .slice a' xs.length c'] [roM M] (fun v _ => v = .bool true) := by
  refine CallsS.of_body Tryz.func3 rfl rfl rfl ?_
  repeat (first | (refine GQ.y ?_; refine Q.y ?_) | refine Q.go ?_ | (refine GQ.g ?_; refine Q.gq ?_) | (refine GQ.s ?_; refine Q.st ?_) | (refine GQ.g ?_; refine Q.gd ?_) | refine Q.ct rfl ?_ | refine Q.cf rfl ?_ | (refine GQ.a ?_; refine Q.al (fun b1 => ?_)))
  refine S.cr rfl (awake_spec _) ?_
  rintro _ _ ⟨rfl, rfl⟩
  repeat (first | (refine GQ.y ?_; refine Q.y ?_) | refine Q.go ?_ | (refine GQ.g ?_; refine Q.gq ?_) | (refine GQ.s ?_; refine Q.st ?_) | (refine GQ.g ?_; refine Q.gd ?_) | refine Q.ct rfl ?_ | refine Q.cf rfl ?_ | (refine GQ.a ?_; refine Q.al (fun b1 => ?_)))
  refine S.y (Y.rem rfl rfl (by decide)) ?_
  have hr0 : 0 ≤ dm.tmod 4 := Int.tmod_nonneg _ hd0
  have hr1 : dm.tmod 4 < 4 := by have := Int.tmod_lt_of_pos dm (show (0 : Int) < 4 by decide); omega
  generalize dm.tmod 4 = dr at hr0 hr1 ⊢
  repeat (first | (refine GQ.y ?_; refine Q.y ?_) | refine Q.go ?_ | (refine GQ.g ?_; refine Q.gq ?_) | (refine GQ.s ?_; refine Q.st ?_) | (refine GQ.g ?_; refine Q.gd ?_) | refine Q.ct rfl ?_ | refine Q.cf rfl ?_ | (refine GQ.a ?_; refine Q.al (fun b1 => ?_)))
  refine S.y (Y.cvi rfl) ?_
  rw [wrap_i64 (a := dr) (by omega) (by omega)]
  repeat (first | (refine GQ.y ?_; refine Q.y ?_) | refine Q.go ?_ | (refine GQ.g ?_; refine Q.gq ?_) | (refine GQ.s ?_; refine Q.st ?_) | (refine GQ.g ?_; refine Q.gd ?_) | refine Q.ct rfl ?_ | refine Q.cf rfl ?_ | (refine GQ.a ?_; refine Q.al (fun b1 => ?_)))
  have hg1 : 1 ≤ 1 + dr := by omega
  have hg2 : 1 + dr ≤ 4 := by omega
  generalize 1 + dr = d at hg1 hg2 ⊢
  clear hr0 hr1
  refine S.cr rfl (New_spec d _ hg1 (by omega)) ?_
  rintro _ _ ⟨v, rfl, rfl⟩
  repeat (first | (refine GQ.y ?_; refine Q.y ?_) | refine Q.go ?_ | (refine GQ.g ?_; refine Q.gq ?_) | (refine GQ.s ?_; refine Q.st ?_) | (refine GQ.g ?_; refine Q.gd ?_) | refine Q.ct rfl ?_ | refine Q.cf rfl ?_ | (refine GQ.a ?_; refine Q.al (fun b1 => ?_)))
  generalize b1 = p
  obtain ⟨st0, hst0⟩ : ∃ st0 : VS, st0 = ⟨d, [], [], 0⟩ := ⟨_, rfl⟩
  have hwf0 : WFK st0 6 := by rw [hst0]; exact ⟨WF0 d hg1 (by omega) _, by simp [keysOK], by simp [keysOK]⟩
  have hgs0 : GS st0 := by rw [hst0]; exact ⟨by simp, by simp, by simp⟩
  have hsd : st0.dim = d := by rw [hst0]
  refine swp_ent (L' := vaultH v st0 :: refH p st0 :: roM M :: []) ?_ ?_
  · rw [hst0]
    refine Ent.trans (Ent.perm (.swap _ _ _)) (Ent.cons ?_)
    refine Ent.trans (Ent.cons (Ent.nilM (Ent.refl _))) ?_
    exact ref_shut (p := p) (st := ⟨d, [], [], 0⟩) (es := []) (is := []) (a := none) (a' := none) (c := 0) (c' := 0) ⟨by simp, by simp, by simp, by simp, by simp, by simp, ⟨rfl, .inl rfl⟩, ⟨rfl, .inl rfl⟩, by simp, by simp, by simp [keysOK], by simp [keysOK], by simp⟩
  clear hst0
  refine swp_cutB (σ := (List EV × Option Addr × Nat) × (List EV × Option Addr × Nat) × (Nat → Option Obj)) (fun u => [(1, .int .u64 mark), (3, .slice a' xs.length c'), (9, .int .i64 d), (10, ptrV v), (12, ptrV p), (13, .slice u.1.2.1 u.1.1.length u.1.2.2), (14, .slice u.2.1.2.1 u.2.1.1.length u.2.1.2.2)])
    (fun u => slO 40 2 u.1.2.1 u.1.1.length u.1.2.2 (u.1.1.flatMap EV.cells) :: slO 37 2 u.2.1.2.1 u.2.1.1.length u.2.1.2.2 (u.2.1.1.flatMap EV.cells) :: roM u.2.2 :: vaultH v st0 :: refH p st0 :: [])
    (fun u => u.1.1.length ≤ 8 ∧ u.1.1.map EV.abs = u.2.1.1.map EV.abs ∧ (∀ e ∈ u.1.1, EBK u.2.2 e) ∧ (∀ e ∈ u.2.1.1, EBK u.2.2 e) ∧ leM M u.2.2) ?_ ?_
  · refine swp_loop (σ := Nat × (List EV × Option Addr × Nat) × (List EV × Option Addr × Nat) × (Nat → Option Obj)) (fun u => [(1, .int .u64 mark), (3, .slice a' xs.length c'), (9, .int .i64 d), (10, ptrV v), (12, ptrV p), (43, .slice a es.length c), (44, .int .i64 es.length), (13, .slice u.2.1.2.1 u.2.1.1.length u.2.1.2.2), (14, .slice u.2.2.1.2.1 u.2.2.1.1.length u.2.2.1.2.2), (45, .int .i64 u.1)])
      (fun u => slO 40 2 u.2.1.2.1 u.2.1.1.length u.2.1.2.2 (u.2.1.1.flatMap EV.cells) :: slO 37 2 u.2.2.1.2.1 u.2.2.1.1.length u.2.2.1.2.2 (u.2.2.1.1.flatMap EV.cells) :: roM u.2.2.2 :: vaultH v st0 :: refH p st0 :: [])
      (fun u => u.1 ≤ es.length ∧ u.1 ≤ 8 ∧ u.2.1.1.length = u.1 ∧ u.2.1.1.map EV.abs = u.2.2.1.1.map EV.abs ∧ (∀ e ∈ u.2.1.1, EBK u.2.2.2 e) ∧ (∀ e ∈ u.2.2.1.1, EBK u.2.2.2 e) ∧ leM M u.2.2.2) (fun u => es.length - u.1) (0, ([], none, 0), ([], none, 0), M) ⟨rfl, rfl, rfl, rfl, rfl, rfl, rfl, rfl, rfl, rfl, trivial⟩ (Ent.trans (Ent.trans (by repeat (first | exact Ent.refl _ | exact Ent.nil | refine Ent.pick ?_ | refine Ent.nilS ?_ | refine Ent.nilM ?_ | refine Ent.drop ?_)) slO_nil) slO_nil) ⟨by omega, by omega, rfl, rfl, by simp, by simp, leM.refl M⟩ ?_
    rintro ⟨k, ⟨ms, a1, c1⟩, ⟨ws, a2, c2⟩, M1⟩ ⟨hk, hk8, hml, hmw, hmo, hwo, hl1⟩
    dsimp only at hk hk8 hml hmw hmo hwo hl1 ⊢
    have hwl : ws.length = k := by
      have := congrArg List.length hmw
      simp at this; omega
    by_cases hlt : k < es.length
    · obtain ⟨e, hee⟩ := mem_get hlt
      obtain ⟨hoe, hel, hec⟩ := he e (List.mem_of_getElem? hee)
      have hoe1 := hoe.mono hl1
      have hrs : RdS (slO 40 2 a1 ms.length c1 (ms.flatMap EV.cells) :: slO 37 2 a2 ws.length c2 (ws.flatMap EV.cells) :: roM M1 :: vaultH v st0 :: refH p st0 :: []) a es.length 2 (es.flatMap EV.cells) := (SlM.mono h hl1).rd
      obtain ⟨b, oo, hia, hr⟩ := RdS.elem (g := EV.cells) (fun _ => rfl) hrs hee rfl
      clear hrs
      rw [hia]
      by_cases h8 : (8 : Int) ≤ k
      · repeat (first | (refine GQ.y ?_; refine Q.y ?_) | refine Q.go ?_ | (refine GQ.g ?_; refine Q.gq ?_) | (refine GQ.s ?_; refine Q.st ?_) | (refine GQ.g ?_; refine Q.gd ?_) | refine Q.ct rfl ?_ | refine Q.cf rfl ?_ | (refine GQ.a ?_; refine Q.al (fun b1 => ?_)))
        exact ⟨((ms, a1, c1), (ws, a2, c2), M1), ⟨rfl, rfl, rfl, rfl, rfl, rfl, rfl, trivial⟩, by repeat (first | exact Ent.refl _ | exact Ent.nil | refine Ent.pick ?_ | refine Ent.nilS ?_ | refine Ent.nilM ?_ | refine Ent.drop ?_), by dsimp only; omega, hmw, hmo, hwo, hl1⟩
      repeat (first | (refine GQ.y ?_; refine Q.y ?_) | refine Q.go ?_ | (refine GQ.g ?_; refine Q.gq ?_) | (refine GQ.s ?_; refine Q.st ?_) | (refine GQ.g ?_; refine Q.gd ?_) | refine Q.ct rfl ?_ | refine Q.cf rfl ?_ | (refine GQ.a ?_; refine Q.al (fun b1 => ?_)))
      generalize b1 = b16
      refine swp_cutT (σ := Nat × Nat) (fun u => [(1, .int .u64 mark), (3, .slice a' xs.length c'), (9, .int .i64 d), (10, ptrV v), (12, ptrV p), (13, .slice a1 ms.length c1), (14, .slice a2 ws.length c2), (16, .pointer (some ⟨b16, 0, none⟩)), (17, .pointer (some ⟨u.1, 0, none⟩)), (18, .pointer (some ⟨u.2, 0, none⟩)), (43, .slice (some ⟨b, oo, none⟩) es.length c), (44, .int .i64 es.length), (45, .int .i64 k)])
        (fun u => pt b16 (cl e.cells 37) :: pt u.1 (cl [.int .u64 e.id, .slice none 0 0] 40) :: pt u.2 (cl [.int .u64 e.id, .slice none 0 0] 37) :: slO 40 2 a1 ms.length c1 (ms.flatMap EV.cells) :: slO 37 2 a2 ws.length c2 (ws.flatMap EV.cells) :: roM M1 :: vaultH v st0 :: refH p st0 :: []) (fun _ => True) ?_ ?_
      · refine Q.dgo [true, false, false, false, false, false] [6, 7, 8, 9] [] [0, 1, 2, 3, 4, 5, 99999, 0, 0, 0] ?_
        repeat (first | refine D.endA ?_ | refine Q.dy rfl rfl rfl ?_ | refine Q.dp rfl rfl rfl ?_ | refine D.end_ ?_ | refine Q.endH ?_ | (refine D.e rfl rfl rfl ?_; (first | refine S.gskip1 rfl ?_ | refine S.gskip rfl ?_ | refine S.y (Y.gskipU rfl) ?_); refine opsS_nil ?_; refine N.tn ?_) | refine Q.dT rfl rfl rfl ?_ | refine Q.dF rfl rfl rfl ?_ | (refine D.e rfl rfl rfl ?_; (first | (refine GQ.a ?_; refine Q.al (fun b1 => ?_)) | (refine GQ.s ?_; refine Q.st ?_)); refine opsS_nil ?_; refine N.tn ?_))
        refine D.two 6 7 [7, 8, 9] [6, 8, 9] (by kernel_rfl) rfl rfl rfl rfl (by kernel_rfl) (by kernel_rfl) ?_ ?_
        · (refine GQ.a ?_; refine Q.al (fun b1 => ?_))
          refine opsS_nil ?_
          refine N.tn ?_
          repeat (first | refine D.endA ?_ | refine Q.dy rfl rfl rfl ?_ | refine Q.dp rfl rfl rfl ?_ | refine D.end_ ?_ | refine Q.endH ?_ | (refine D.e rfl rfl rfl ?_; (first | refine S.gskip1 rfl ?_ | refine S.gskip rfl ?_ | refine S.y (Y.gskipU rfl) ?_); refine opsS_nil ?_; refine N.tn ?_) | refine Q.dT rfl rfl rfl ?_ | refine Q.dF rfl rfl rfl ?_ | (refine D.e rfl rfl rfl ?_; (first | (refine GQ.a ?_; refine Q.al (fun b1 => ?_)) | (refine GQ.s ?_; refine Q.st ?_)); refine opsS_nil ?_; refine N.tn ?_))
          rename_i bq
          exact N.tn ⟨(bq, b1), ⟨rfl, rfl, rfl, rfl, rfl, rfl, rfl, rfl, rfl, rfl, rfl, rfl, rfl, trivial⟩, by repeat (first | exact Ent.refl _ | exact Ent.nil | refine Ent.pick ?_ | refine Ent.nilS ?_ | refine Ent.nilM ?_ | refine Ent.drop ?_), trivial⟩
        · (refine GQ.a ?_; refine Q.al (fun b1 => ?_))
          refine opsS_nil ?_
          refine N.tn ?_
          repeat (first | refine D.endA ?_ | refine Q.dy rfl rfl rfl ?_ | refine Q.dp rfl rfl rfl ?_ | refine D.end_ ?_ | refine Q.endH ?_ | (refine D.e rfl rfl rfl ?_; (first | refine S.gskip1 rfl ?_ | refine S.gskip rfl ?_ | refine S.y (Y.gskipU rfl) ?_); refine opsS_nil ?_; refine N.tn ?_) | refine Q.dT rfl rfl rfl ?_ | refine Q.dF rfl rfl rfl ?_ | (refine D.e rfl rfl rfl ?_; (first | (refine GQ.a ?_; refine Q.al (fun b1 => ?_)) | (refine GQ.s ?_; refine Q.st ?_)); refine opsS_nil ?_; refine N.tn ?_))
          rename_i bq
          exact N.tn ⟨(b1, bq), ⟨rfl, rfl, rfl, rfl, rfl, rfl, rfl, rfl, rfl, rfl, rfl, rfl, rfl, trivial⟩, by repeat (first | exact Ent.refl _ | exact Ent.nil | refine Ent.pick ?_ | refine Ent.nilS ?_ | refine Ent.nilM ?_ | refine Ent.drop ?_), trivial⟩
      rintro ⟨by_, bz⟩ -
      dsimp only
      repeat (first | (refine GQ.y ?_; refine Q.y ?_) | refine Q.go ?_ | (refine GQ.g ?_; refine Q.gq ?_) | (refine GQ.s ?_; refine Q.st ?_) | (refine GQ.g ?_; refine Q.gd ?_) | refine Q.ct rfl ?_ | refine Q.cf rfl ?_ | (refine GQ.a ?_; refine Q.al (fun b1 => ?_)))
      refine swp_cutB (σ := List OV × (Option Addr × Nat) × (Option Addr × Nat) × (Nat → Option Obj)) (fun u => [(1, .int .u64 mark), (3, .slice a' xs.length c'), (9, .int .i64 d), (10, ptrV v), (12, ptrV p), (13, .slice a1 ms.length c1), (14, .slice a2 ws.length c2), (17, .pointer (some ⟨by_, 0, none⟩)), (18, .pointer (some ⟨bz, 0, none⟩)), (43, .slice (some ⟨b, oo, none⟩) es.length c), (44, .int .i64 es.length), (45, .int .i64 k)])
        (fun u => pt by_ (cl [.int .u64 e.id, .slice u.2.1.1 u.1.length u.2.1.2] 40) :: pt bz (cl [.int .u64 e.id, .slice u.2.2.1.1 u.1.length u.2.2.1.2] 37) :: slO 45 2 u.2.1.1 u.1.length u.2.1.2 (u.1.flatMap OV.cells) :: slO 43 2 u.2.2.1.1 u.1.length u.2.2.1.2 (u.1.flatMap OV.cells) :: slO 40 2 a1 ms.length c1 (ms.flatMap EV.cells) :: slO 37 2 a2 ws.length c2 (ws.flatMap EV.cells) :: roM u.2.2.2 :: vaultH v st0 :: refH p st0 :: [])
        (fun u => u.1.length ≤ 6 ∧ leM M1 u.2.2.2 ∧ okR u.2.2.2 u.1 ∧ ∀ o ∈ u.1, o.vec.length ≤ 9 ∧ o.vec.length ≤ o.c) ?_ ?_
      · refine swp_loop (σ := Nat × List OV × (Option Addr × Nat) × (Option Addr × Nat) × (Nat → Option Obj)) (fun u => [(1, .int .u64 mark), (3, .slice a' xs.length c'), (9, .int .i64 d), (10, ptrV v), (12, ptrV p), (13, .slice a1 ms.length c1), (14, .slice a2 ws.length c2), (17, .pointer (some ⟨by_, 0, none⟩)), (18, .pointer (some ⟨bz, 0, none⟩)), (43, .slice (some ⟨b, oo, none⟩) es.length c), (44, .int .i64 es.length), (45, .int .i64 k), (59, .slice e.a e.vs.length e.c), (60, .int .i64 e.vs.length), (61, .int .i64 u.1)])
          (fun u => pt by_ (cl [.int .u64 e.id, .slice u.2.2.1.1 u.2.1.length u.2.2.1.2] 40) :: pt bz (cl [.int .u64 e.id, .slice u.2.2.2.1.1 u.2.1.length u.2.2.2.1.2] 37) :: slO 45 2 u.2.2.1.1 u.2.1.length u.2.2.1.2 (u.2.1.flatMap OV.cells) :: slO 43 2 u.2.2.2.1.1 u.2.1.length u.2.2.2.1.2 (u.2.1.flatMap OV.cells) :: slO 40 2 a1 ms.length c1 (ms.flatMap EV.cells) :: slO 37 2 a2 ws.length c2 (ws.flatMap EV.cells) :: roM u.2.2.2.2 :: vaultH v st0 :: refH p st0 :: [])
          (fun u => u.1 ≤ e.vs.length ∧ u.2.1.length ≤ 6 ∧ u.2.1.length ≤ u.1 ∧ leM M1 u.2.2.2.2 ∧ okR u.2.2.2.2 u.2.1 ∧ ∀ o ∈ u.2.1, o.vec.length ≤ 9 ∧ o.vec.length ≤ o.c) (fun u => e.vs.length - u.1) (0, [], (none, 0), (none, 0), M1) ⟨rfl, rfl, rfl, rfl, rfl, rfl, rfl, rfl, rfl, rfl, rfl, rfl, rfl, rfl, rfl, trivial⟩ ?_ ⟨by omega, by simp, by simp, leM.refl M1, fun o ho => (by cases ho), by simp⟩ ?_
        · dsimp only
          refine Ent.trans ?_ (Ent.cons (Ent.cons (Ent.trans slO_nil slO_nil)))
          repeat (first | exact Ent.refl _ | exact Ent.nil | refine Ent.pick ?_ | refine Ent.nilS ?_ | refine Ent.nilM ?_ | refine Ent.drop ?_)
        rintro ⟨j, vs, ⟨a3, c3⟩, ⟨a4, c4⟩, M2⟩ ⟨hj, hv6, hvj, hl2, hvo, hvv⟩
        dsimp only at hj hv6 hvj hl2 hvo hvv ⊢
        by_cases hjl : j < e.vs.length
        · obtain ⟨o, ho⟩ := mem_get hjl
          have hmo : o ∈ e.vs := List.mem_of_getElem? ho
          have hoc := hec o hmo
          have hoo := (hoe1.2 o hmo).mono hl2
          have hrs : RdS (pt by_ (cl [.int .u64 e.id, .slice a3 vs.length c3] 40) :: pt bz (cl [.int .u64 e.id, .slice a4 vs.length c4] 37) :: slO 45 2 a3 vs.length c3 (vs.flatMap OV.cells) :: slO 43 2 a4 vs.length c4 (vs.flatMap OV.cells) :: slO 40 2 a1 ms.length c1 (ms.flatMap EV.cells) :: slO 37 2 a2 ws.length c2 (ws.flatMap EV.cells) :: roM M2 :: vaultH v st0 :: refH p st0 :: []) e.a e.vs.length 2 (e.vs.flatMap OV.cells) := (SlM.mono hoe1.1 hl2).rd
          obtain ⟨b5, o5, hia5, hr5⟩ := RdS.elem (g := OV.cells) (fun _ => rfl) hrs ho rfl
          clear hrs
          rw [hia5]
          repeat (first | (refine GQ.y ?_; refine Q.y ?_) | refine Q.go ?_ | (refine GQ.g ?_; refine Q.gq ?_) | (refine GQ.s ?_; refine Q.st ?_) | (refine GQ.g ?_; refine Q.gd ?_) | refine Q.ct rfl ?_ | refine Q.cf rfl ?_ | (refine GQ.a ?_; refine Q.al (fun b1 => ?_)))
          generalize b1 = b20
          refine swp_cutB (σ := List OV × (Option Addr × Nat) × (Option Addr × Nat) × (Nat → Option Obj)) (fun u => [(1, .int .u64 mark), (3, .slice a' xs.length c'), (9, .int .i64 d), (10, ptrV v), (12, ptrV p), (13, .slice a1 ms.length c1), (14, .slice a2 ws.length c2), (17, .pointer (some ⟨by_, 0, none⟩)), (18, .pointer (some ⟨bz, 0, none⟩)), (43, .slice (some ⟨b, oo, none⟩) es.length c), (44, .int .i64 es.length), (45, .int .i64 k), (59, .slice (some ⟨b5, o5, none⟩) e.vs.length e.c), (60, .int .i64 e.vs.length), (61, .int .i64 j)])
            (fun u => pt by_ (cl [.int .u64 e.id, .slice u.2.1.1 u.1.length u.2.1.2] 40) :: pt bz (cl [.int .u64 e.id, .slice u.2.2.1.1 u.1.length u.2.2.1.2] 37) :: slO 45 2 u.2.1.1 u.1.length u.2.1.2 (u.1.flatMap OV.cells) :: slO 43 2 u.2.2.1.1 u.1.length u.2.2.1.2 (u.1.flatMap OV.cells) :: slO 40 2 a1 ms.length c1 (ms.flatMap EV.cells) :: slO 37 2 a2 ws.length c2 (ws.flatMap EV.cells) :: roM u.2.2.2 :: vaultH v st0 :: refH p st0 :: [])
            (fun u => u.1.length ≤ 6 ∧ u.1.length ≤ j + 1 ∧ leM M1 u.2.2.2 ∧ okR u.2.2.2 u.1 ∧ ∀ o ∈ u.1, o.vec.length ≤ 9 ∧ o.vec.length ≤ o.c) ?_ ?_
          · by_cases h6 : (j : Int) < 6
            · repeat (first | (refine GQ.y ?_; refine Q.y ?_) | refine Q.go ?_ | (refine GQ.g ?_; refine Q.gq ?_) | (refine GQ.s ?_; refine Q.st ?_) | (refine GQ.g ?_; refine Q.gd ?_) | refine Q.ct rfl ?_ | refine Q.cf rfl ?_ | (refine GQ.a ?_; refine Q.al (fun b1 => ?_)))
              refine S.cr rfl (CutVec_spec o.a o.c 9 o.vec _ hoo.rd hoc (by omega)) ?_
              rintro _ _ ⟨a5, c5, rfl, rfl⟩
              refine opsS_cap a5 fun hc5 => opsS_abs a5 (fun M3 hl3 hs5 => ?_)
              have hl9 : (o.vec.take 9).length ≤ 9 := by rw [List.length_take]; omega
              generalize o.vec.take 9 = ov at hc5 hs5 hl9 ⊢
              repeat (first | (refine GQ.y ?_; refine Q.y ?_) | refine Q.go ?_ | (refine GQ.g ?_; refine Q.gq ?_) | (refine GQ.s ?_; refine Q.st ?_) | (refine GQ.g ?_; refine Q.gd ?_) | refine Q.ct rfl ?_ | refine Q.cf rfl ?_ | (refine GQ.a ?_; refine Q.al (fun b1 => ?_)))
              refine swp_ent (L' := pt b20 (cl [.int .u64 o.id, .slice a5 ov.length c5] 43) :: pt by_ (cl [.int .u64 e.id, .slice a3 vs.length c3] 40) :: pt bz (cl [.int .u64 e.id, .slice a4 vs.length c4] 37) :: slO 45 2 a3 vs.length c3 (vs.flatMap OV.cells) :: slO 43 2 a4 vs.length c4 (vs.flatMap OV.cells) :: slO 40 2 a1 ms.length c1 (ms.flatMap EV.cells) :: slO 37 2 a2 ws.length c2 (ws.flatMap EV.cells) :: roM M3 :: vaultH v st0 :: refH p st0 :: []) (by repeat (first | exact Ent.refl _ | exact Ent.nil | refine Ent.pick ?_ | refine Ent.nilS ?_ | refine Ent.nilM ?_ | refine Ent.drop ?_)) ?_
              have hvn : (vs ++ [(⟨o.id, a5, c5, ov⟩ : OV)]).length ≤ 6 ∧ (vs ++ [(⟨o.id, a5, c5, ov⟩ : OV)]).length ≤ j + 1 ∧ leM M1 M3 ∧ okR M3 (vs ++ [⟨o.id, a5, c5, ov⟩]) ∧ ∀ w ∈ vs ++ [(⟨o.id, a5, c5, ov⟩ : OV)], w.vec.length ≤ 9 ∧ w.vec.length ≤ w.c := by
                refine ⟨by simp; omega, by simp; omega, hl2.trans hl3, fun w hw2 => ?_, fun w hw2 => ?_⟩
                · rcases List.mem_append.1 hw2 with hw2 | hw2
                  · exact (hvo w hw2).mono hl3
                  · obtain rfl := List.mem_singleton.1 hw2
                    exact hs5
                · rcases List.mem_append.1 hw2 with hw2 | hw2
                  · exact hvv w hw2
                  · obtain rfl := List.mem_singleton.1 hw2
                    exact ⟨hl9, hc5⟩
              refine Q.dgo [true, true, true, false, false, false, false, false, false, false] [3, 4, 8, 9, 11, 13] [11] [0, 1, 2, 5, 6, 7, 99999, 0, 0, 0, 0, 0, 0, 0] ?_
              repeat (first | refine D.endA ?_ | refine Q.dy rfl rfl rfl ?_ | refine Q.dp rfl rfl rfl ?_ | refine D.end_ ?_ | refine Q.endH ?_ | (refine D.e rfl rfl rfl ?_; (first | refine S.gskip1 rfl ?_ | refine S.gskip rfl ?_ | refine S.y (Y.gskipU rfl) ?_); refine opsS_nil ?_; refine N.tn ?_) | refine Q.dT rfl rfl rfl ?_ | refine Q.dF rfl rfl rfl ?_)
              refine D.two 3 8 [99999, 0, 0, 0, 0, 0, 0] [3, 4, 10, 9, 11, 12, 13] (by kernel_rfl) rfl rfl rfl rfl (by kernel_rfl) (by kernel_rfl) ?_ ?_
              · refine S.bs rfl rfl rfl rfl (by repeat (first | exact nz | (apply cz; exact rfl) | exact rfl)) (fun b8 => ?_)
                repeat (first | (refine GQ.y ?_; refine Q.y ?_) | refine Q.go ?_ | (refine GQ.g ?_; refine Q.gq ?_) | (refine GQ.s ?_; refine Q.st ?_))
                refine D.two 4 8 [10, 8, 9, 11, 12, 13] [4, 10, 9, 11, 12, 13] (by kernel_rfl) rfl rfl rfl rfl (by kernel_rfl) (by kernel_rfl) ?_ ?_
                · refine S.app rfl rfl (SrcS.sl RdC.row (by rfl) (by rfl)) (by rfl) (by omega) (by omega) (fun a6 c6 => ?_)
                  repeat (first | (refine GQ.y ?_; refine Q.y ?_) | refine Q.go ?_ | (refine GQ.g ?_; refine Q.gq ?_) | (refine GQ.s ?_; refine Q.st ?_))
                  repeat (first | refine D.endA ?_ | refine Q.dy rfl rfl rfl ?_ | refine Q.dp rfl rfl rfl ?_ | refine D.end_ ?_ | refine Q.endH ?_ | (refine D.e rfl rfl rfl ?_; (first | refine S.gskip1 rfl ?_ | refine S.gskip rfl ?_ | refine S.y (Y.gskipU rfl) ?_); refine opsS_nil ?_; refine N.tn ?_) | refine Q.dT rfl rfl rfl ?_ | refine Q.dF rfl rfl rfl ?_)
                  refine D.e rfl rfl rfl ?_
                  refine S.bs rfl rfl rfl rfl (by repeat (first | exact nz | (apply cz; exact rfl) | exact rfl)) (fun b9 => ?_)
                  repeat (first | (refine GQ.y ?_; refine Q.y ?_) | refine Q.go ?_ | (refine GQ.g ?_; refine Q.gq ?_) | (refine GQ.s ?_; refine Q.st ?_))
                  repeat (first | refine D.endA ?_ | refine Q.dy rfl rfl rfl ?_ | refine Q.dp rfl rfl rfl ?_ | refine D.end_ ?_ | refine Q.endH ?_ | (refine D.e rfl rfl rfl ?_; (first | refine S.gskip1 rfl ?_ | refine S.gskip rfl ?_ | refine S.y (Y.gskipU rfl) ?_); refine opsS_nil ?_; refine N.tn ?_) | refine Q.dT rfl rfl rfl ?_ | refine Q.dF rfl rfl rfl ?_)
                  refine D.e rfl rfl rfl ?_
                  refine S.app rfl rfl (SrcS.sl RdC.row (by rfl) (by rfl)) (by rfl) (by omega) (by omega) (fun a7 c7 => ?_)
                  repeat (first | (refine GQ.y ?_; refine Q.y ?_) | refine Q.go ?_ | (refine GQ.g ?_; refine Q.gq ?_) | (refine GQ.s ?_; refine Q.st ?_))
                  repeat (first | refine D.endA ?_ | refine Q.dy rfl rfl rfl ?_ | refine Q.dp rfl rfl rfl ?_ | refine D.end_ ?_ | refine Q.endH ?_ | (refine D.e rfl rfl rfl ?_; (first | refine S.gskip1 rfl ?_ | refine S.gskip rfl ?_ | refine S.y (Y.gskipU rfl) ?_); refine opsS_nil ?_; refine N.tn ?_) | refine Q.dT rfl rfl rfl ?_ | refine Q.dF rfl rfl rfl ?_)
                  refine Q.dc rfl rfl rfl rfl ?_
                  repeat (first | (refine GQ.y ?_; refine Q.y ?_) | refine Q.go ?_ | (refine GQ.g ?_; refine Q.gq ?_) | (refine GQ.s ?_; refine Q.st ?_))
                  repeat (first | refine D.endA ?_ | refine Q.dy rfl rfl rfl ?_ | refine Q.dp rfl rfl rfl ?_ | refine D.end_ ?_ | refine Q.endH ?_ | (refine D.e rfl rfl rfl ?_; (first | refine S.gskip1 rfl ?_ | refine S.gskip rfl ?_ | refine S.y (Y.gskipU rfl) ?_); refine opsS_nil ?_; refine N.tn ?_) | refine Q.dT rfl rfl rfl ?_ | refine Q.dF rfl rfl rfl ?_)
                  refine D.e rfl rfl rfl ?_
                  repeat (first | (refine GQ.y ?_; refine Q.y ?_) | refine Q.go ?_ | (refine GQ.g ?_; refine Q.gq ?_) | (refine GQ.s ?_; refine Q.st ?_))
                  repeat (first | refine D.endA ?_ | refine Q.dy rfl rfl rfl ?_ | refine Q.dp rfl rfl rfl ?_ | refine D.end_ ?_ | refine Q.endH ?_ | (refine D.e rfl rfl rfl ?_; (first | refine S.gskip1 rfl ?_ | refine S.gskip rfl ?_ | refine S.y (Y.gskipU rfl) ?_); refine opsS_nil ?_; refine N.tn ?_) | refine Q.dT rfl rfl rfl ?_ | refine Q.dF rfl rfl rfl ?_)
                  repeat (first | (refine GQ.y ?_; refine Q.y ?_) | refine Q.go ?_ | (refine GQ.g ?_; refine Q.gq ?_) | (refine GQ.s ?_; refine Q.st ?_) | (refine GQ.g ?_; refine Q.gd ?_) | refine Q.ct rfl ?_ | refine Q.cf rfl ?_ | (refine GQ.a ?_; refine Q.al (fun b1 => ?_)))
                  refine ⟨(vs ++ [⟨o.id, a5, c5, ov⟩], (a6, c6), (a7, c7), M3), ⟨rfl, rfl, rfl, rfl, rfl, rfl, rfl, rfl, rfl, rfl, rfl, rfl, rfl, rfl, rfl, trivial⟩, ?_, hvn⟩
                  dsimp only
                  rw [len_snoc, flat_snoc]
                  repeat (first | exact Ent.refl _ | exact Ent.nil | refine Ent.pick ?_ | refine Ent.nilS ?_ | refine Ent.nilM ?_ | refine Ent.drop ?_)
                · refine S.bs rfl rfl rfl rfl (by repeat (first | exact nz | (apply cz; exact rfl) | exact rfl)) (fun b9 => ?_)
                  repeat (first | (refine GQ.y ?_; refine Q.y ?_) | refine Q.go ?_ | (refine GQ.g ?_; refine Q.gq ?_) | (refine GQ.s ?_; refine Q.st ?_))
                  repeat (first | refine D.endA ?_ | refine Q.dy rfl rfl rfl ?_ | refine Q.dp rfl rfl rfl ?_ | refine D.end_ ?_ | refine Q.endH ?_ | (refine D.e rfl rfl rfl ?_; (first | refine S.gskip1 rfl ?_ | refine S.gskip rfl ?_ | refine S.y (Y.gskipU rfl) ?_); refine opsS_nil ?_; refine N.tn ?_) | refine Q.dT rfl rfl rfl ?_ | refine Q.dF rfl rfl rfl ?_)
                  refine D.e rfl rfl rfl ?_
                  refine S.app rfl rfl (SrcS.sl RdC.row (by rfl) (by rfl)) (by rfl) (by omega) (by omega) (fun a6 c6 => ?_)
                  repeat (first | (refine GQ.y ?_; refine Q.y ?_) | refine Q.go ?_ | (refine GQ.g ?_; refine Q.gq ?_) | (refine GQ.s ?_; refine Q.st ?_))
                  repeat (first | refine D.endA ?_ | refine Q.dy rfl rfl rfl ?_ | refine Q.dp rfl rfl rfl ?_ | refine D.end_ ?_ | refine Q.endH ?_ | (refine D.e rfl rfl rfl ?_; (first | refine S.gskip1 rfl ?_ | refine S.gskip rfl ?_ | refine S.y (Y.gskipU rfl) ?_); refine opsS_nil ?_; refine N.tn ?_) | refine Q.dT rfl rfl rfl ?_ | refine Q.dF rfl rfl rfl ?_)
                  refine D.e rfl rfl rfl ?_
                  refine S.app rfl rfl (SrcS.sl RdC.row (by rfl) (by rfl)) (by rfl) (by omega) (by omega) (fun a7 c7 => ?_)
                  repeat (first | (refine GQ.y ?_; refine Q.y ?_) | refine Q.go ?_ | (refine GQ.g ?_; refine Q.gq ?_) | (refine GQ.s ?_; refine Q.st ?_))
                  repeat (first | refine D.endA ?_ | refine Q.dy rfl rfl rfl ?_ | refine Q.dp rfl rfl rfl ?_ | refine D.end_ ?_ | refine Q.endH ?_ | (refine D.e rfl rfl rfl ?_; (first | refine S.gskip1 rfl ?_ | refine S.gskip rfl ?_ | refine S.y (Y.gskipU rfl) ?_); refine opsS_nil ?_; refine N.tn ?_) | refine Q.dT rfl rfl rfl ?_ | refine Q.dF rfl rfl rfl ?_)
                  refine Q.dc rfl rfl rfl rfl ?_
                  repeat (first | (refine GQ.y ?_; refine Q.y ?_) | refine Q.go ?_ | (refine GQ.g ?_; refine Q.gq ?_) | (refine GQ.s ?_; refine Q.st ?_))
                  repeat (first | refine D.endA ?_ | refine Q.dy rfl rfl rfl ?_ | refine Q.dp rfl rfl rfl ?_ | refine D.end_ ?_ | refine Q.endH ?_ | (refine D.e rfl rfl rfl ?_; (first | refine S.gskip1 rfl ?_ | refine S.gskip rfl ?_ | refine S.y (Y.gskipU rfl) ?_); refine opsS_nil ?_; refine N.tn ?_) | refine Q.dT rfl rfl rfl ?_ | refine Q.dF rfl rfl rfl ?_)
                  refine D.e rfl rfl rfl ?_
                  repeat (first | (refine GQ.y ?_; refine Q.y ?_) | refine Q.go ?_ | (refine GQ.g ?_; refine Q.gq ?_) | (refine GQ.s ?_; refine Q.st ?_))
                  repeat (first | refine D.endA ?_ | refine Q.dy rfl rfl rfl ?_ | refine Q.dp rfl rfl rfl ?_ | refine D.end_ ?_ | refine Q.endH ?_ | (refine D.e rfl rfl rfl ?_; (first | refine S.gskip1 rfl ?_ | refine S.gskip rfl ?_ | refine S.y (Y.gskipU rfl) ?_); refine opsS_nil ?_; refine N.tn ?_) | refine Q.dT rfl rfl rfl ?_ | refine Q.dF rfl rfl rfl ?_)
                  repeat (first | (refine GQ.y ?_; refine Q.y ?_) | refine Q.go ?_ | (refine GQ.g ?_; refine Q.gq ?_) | (refine GQ.s ?_; refine Q.st ?_) | (refine GQ.g ?_; refine Q.gd ?_) | refine Q.ct rfl ?_ | refine Q.cf rfl ?_ | (refine GQ.a ?_; refine Q.al (fun b1 => ?_)))
                  refine ⟨(vs ++ [⟨o.id, a5, c5, ov⟩], (a6, c6), (a7, c7), M3), ⟨rfl, rfl, rfl, rfl, rfl, rfl, rfl, rfl, rfl, rfl, rfl, rfl, rfl, rfl, rfl, trivial⟩, ?_, hvn⟩
                  dsimp only
                  rw [len_snoc, flat_snoc]
                  repeat (first | exact Ent.refl _ | exact Ent.nil | refine Ent.pick ?_ | refine Ent.nilS ?_ | refine Ent.nilM ?_ | refine Ent.drop ?_)
              · refine S.bs rfl rfl rfl rfl (by repeat (first | exact nz | (apply cz; exact rfl) | exact rfl)) (fun b9 => ?_)
                repeat (first | (refine GQ.y ?_; refine Q.y ?_) | refine Q.go ?_ | (refine GQ.g ?_; refine Q.gq ?_) | (refine GQ.s ?_; refine Q.st ?_))
                repeat (first | refine D.endA ?_ | refine Q.dy rfl rfl rfl ?_ | refine Q.dp rfl rfl rfl ?_ | refine D.end_ ?_ | refine Q.endH ?_ | (refine D.e rfl rfl rfl ?_; (first | refine S.gskip1 rfl ?_ | refine S.gskip rfl ?_ | refine S.y (Y.gskipU rfl) ?_); refine opsS_nil ?_; refine N.tn ?_) | refine Q.dT rfl rfl rfl ?_ | refine Q.dF rfl rfl rfl ?_)
                refine D.e rfl rfl rfl ?_
                refine S.bs rfl rfl rfl rfl (by repeat (first | exact nz | (apply cz; exact rfl) | exact rfl)) (fun b8 => ?_)
                repeat (first | (refine GQ.y ?_; refine Q.y ?_) | refine Q.go ?_ | (refine GQ.g ?_; refine Q.gq ?_) | (refine GQ.s ?_; refine Q.st ?_))
                repeat (first | refine D.endA ?_ | refine Q.dy rfl rfl rfl ?_ | refine Q.dp rfl rfl rfl ?_ | refine D.end_ ?_ | refine Q.endH ?_ | (refine D.e rfl rfl rfl ?_; (first | refine S.gskip1 rfl ?_ | refine S.gskip rfl ?_ | refine S.y (Y.gskipU rfl) ?_); refine opsS_nil ?_; refine N.tn ?_) | refine Q.dT rfl rfl rfl ?_ | refine Q.dF rfl rfl rfl ?_)
                refine D.e rfl rfl rfl ?_
                refine S.app rfl rfl (SrcS.sl RdC.row (by rfl) (by rfl)) (by rfl) (by omega) (by omega) (fun a6 c6 => ?_)
                repeat (first | (refine GQ.y ?_; refine Q.y ?_) | refine Q.go ?_ | (refine GQ.g ?_; refine Q.gq ?_) | (refine GQ.s ?_; refine Q.st ?_))
                repeat (first | refine D.endA ?_ | refine Q.dy rfl rfl rfl ?_ | refine Q.dp rfl rfl rfl ?_ | refine D.end_ ?_ | refine Q.endH ?_ | (refine D.e rfl rfl rfl ?_; (first | refine S.gskip1 rfl ?_ | refine S.gskip rfl ?_ | refine S.y (Y.gskipU rfl) ?_); refine opsS_nil ?_; refine N.tn ?_) | refine Q.dT rfl rfl rfl ?_ | refine Q.dF rfl rfl rfl ?_)
                refine D.e rfl rfl rfl ?_
                refine S.app rfl rfl (SrcS.sl RdC.row (by rfl) (by rfl)) (by rfl) (by omega) (by omega) (fun a7 c7 => ?_)
                repeat (first | (refine GQ.y ?_; refine Q.y ?_) | refine Q.go ?_ | (refine GQ.g ?_; refine Q.gq ?_) | (refine GQ.s ?_; refine Q.st ?_))
                repeat (first | refine D.endA ?_ | refine Q.dy rfl rfl rfl ?_ | refine Q.dp rfl rfl rfl ?_ | refine D.end_ ?_ | refine Q.endH ?_ | (refine D.e rfl rfl rfl ?_; (first | refine S.gskip1 rfl ?_ | refine S.gskip rfl ?_ | refine S.y (Y.gskipU rfl) ?_); refine opsS_nil ?_; refine N.tn ?_) | refine Q.dT rfl rfl rfl ?_ | refine Q.dF rfl rfl rfl ?_)
                refine Q.dc rfl rfl rfl rfl ?_
                repeat (first | (refine GQ.y ?_; refine Q.y ?_) | refine Q.go ?_ | (refine GQ.g ?_; refine Q.gq ?_) | (refine GQ.s ?_; refine Q.st ?_))
                repeat (first | refine D.endA ?_ | refine Q.dy rfl rfl rfl ?_ | refine Q.dp rfl rfl rfl ?_ | refine D.end_ ?_ | refine Q.endH ?_ | (refine D.e rfl rfl rfl ?_; (first | refine S.gskip1 rfl ?_ | refine S.gskip rfl ?_ | refine S.y (Y.gskipU rfl) ?_); refine opsS_nil ?_; refine N.tn ?_) | refine Q.dT rfl rfl rfl ?_ | refine Q.dF rfl rfl rfl ?_)
                refine D.e rfl rfl rfl ?_
                repeat (first | (refine GQ.y ?_; refine Q.y ?_) | refine Q.go ?_ | (refine GQ.g ?_; refine Q.gq ?_) | (refine GQ.s ?_; refine Q.st ?_))
                repeat (first | refine D.endA ?_ | refine Q.dy rfl rfl rfl ?_ | refine Q.dp rfl rfl rfl ?_ | refine D.end_ ?_ | refine Q.endH ?_ | (refine D.e rfl rfl rfl ?_; (first | refine S.gskip1 rfl ?_ | refine S.gskip rfl ?_ | refine S.y (Y.gskipU rfl) ?_); refine opsS_nil ?_; refine N.tn ?_) | refine Q.dT rfl rfl rfl ?_ | refine Q.dF rfl rfl rfl ?_)
                repeat (first | (refine GQ.y ?_; refine Q.y ?_) | refine Q.go ?_ | (refine GQ.g ?_; refine Q.gq ?_) | (refine GQ.s ?_; refine Q.st ?_) | (refine GQ.g ?_; refine Q.gd ?_) | refine Q.ct rfl ?_ | refine Q.cf rfl ?_ | (refine GQ.a ?_; refine Q.al (fun b1 => ?_)))
                refine ⟨(vs ++ [⟨o.id, a5, c5, ov⟩], (a6, c6), (a7, c7), M3), ⟨rfl, rfl, rfl, rfl, rfl, rfl, rfl, rfl, rfl, rfl, rfl, rfl, rfl, rfl, rfl, trivial⟩, ?_, hvn⟩
                dsimp only
                rw [len_snoc, flat_snoc]
                repeat (first | exact Ent.refl _ | exact Ent.nil | refine Ent.pick ?_ | refine Ent.nilS ?_ | refine Ent.nilM ?_ | refine Ent.drop ?_)
            · repeat (first | (refine GQ.y ?_; refine Q.y ?_) | refine Q.go ?_ | (refine GQ.g ?_; refine Q.gq ?_) | (refine GQ.s ?_; refine Q.st ?_) | (refine GQ.g ?_; refine Q.gd ?_) | refine Q.ct rfl ?_ | refine Q.cf rfl ?_ | (refine GQ.a ?_; refine Q.al (fun b1 => ?_)))
              refine ⟨(vs, (a3, c3), (a4, c4), M2), ⟨rfl, rfl, rfl, rfl, rfl, rfl, rfl, rfl, rfl, rfl, rfl, rfl, rfl, rfl, rfl, trivial⟩, by repeat (first | exact Ent.refl _ | exact Ent.nil | refine Ent.pick ?_ | refine Ent.nilS ?_ | refine Ent.nilM ?_ | refine Ent.drop ?_), hv6, by dsimp only; omega, hl2, hvo, hvv⟩
          rintro ⟨vs2, ⟨a6, c6⟩, ⟨a7, c7⟩, M3⟩ ⟨hv6', hvj', hl3, hvo', hvv'⟩
          dsimp only at hv6' hvj' hl3 hvo' hvv' ⊢
          repeat (first | (refine GQ.y ?_; refine Q.y ?_) | refine Q.go ?_ | (refine GQ.g ?_; refine Q.gq ?_) | (refine GQ.s ?_; refine Q.st ?_) | (refine GQ.g ?_; refine Q.gd ?_) | refine Q.ct rfl ?_ | refine Q.cf rfl ?_ | (refine GQ.a ?_; refine Q.al (fun b1 => ?_)))
          refine ⟨(j + 1, vs2, (a6, c6), (a7, c7), M3), ⟨rfl, rfl, rfl, rfl, rfl, rfl, rfl, rfl, rfl, rfl, rfl, rfl, rfl, rfl, rfl, trivial⟩, Ent.refl _, ⟨by dsimp only; omega, hv6', by dsimp only; omega, hl3, hvo', hvv'⟩, by dsimp only; omega⟩
        · have hje : j = e.vs.length := by omega
          subst hje
          repeat (first | (refine GQ.y ?_; refine Q.y ?_) | refine Q.go ?_ | (refine GQ.g ?_; refine Q.gq ?_) | (refine GQ.s ?_; refine Q.st ?_) | (refine GQ.g ?_; refine Q.gd ?_) | refine Q.ct rfl ?_ | refine Q.cf rfl ?_ | (refine GQ.a ?_; refine Q.al (fun b1 => ?_)))
          exact ⟨(vs, (a3, c3), (a4, c4), M2), ⟨rfl, rfl, rfl, rfl, rfl, rfl, rfl, rfl, rfl, rfl, rfl, rfl, trivial⟩, by repeat (first | exact Ent.refl _ | exact Ent.nil | refine Ent.pick ?_ | refine Ent.nilS ?_ | refine Ent.nilM ?_ | refine Ent.drop ?_), hv6, hl2, hvo, hvv⟩
      rintro ⟨vs, ⟨a3, c3⟩, ⟨a4, c4⟩, M2⟩ ⟨hv6, hl2, hvo, hvv⟩
      dsimp only at hv6 hl2 hvo hvv ⊢
      refine swp_abs a3 (fun M3 hl3 hs3 => ?_)
      refine swp_abs a4 (fun M4 hl4 hs4 => ?_)
      repeat (first | (refine GQ.y ?_; refine Q.y ?_) | refine Q.go ?_ | (refine GQ.g ?_; refine Q.gq ?_) | (refine GQ.s ?_; refine Q.st ?_) | (refine GQ.g ?_; refine Q.gd ?_) | refine Q.ct rfl ?_ | refine Q.cf rfl ?_ | (refine GQ.a ?_; refine Q.al (fun b1 => ?_)))
      refine swp_ent (L' := pt by_ (cl [.int .u64 e.id, .slice a3 vs.length c3] 40) :: pt bz (cl [.int .u64 e.id, .slice a4 vs.length c4] 37) :: slO 40 2 a1 ms.length c1 (ms.flatMap EV.cells) :: slO 37 2 a2 ws.length c2 (ws.flatMap EV.cells) :: roM M4 :: vaultH v st0 :: refH p st0 :: []) (by repeat (first | exact Ent.refl _ | exact Ent.nil | refine Ent.pick ?_ | refine Ent.nilS ?_ | refine Ent.nilM ?_ | refine Ent.drop ?_)) ?_
      refine swp_cutB (σ := (Option Addr × Nat) × (Option Addr × Nat)) (fun u => [(1, .int .u64 mark), (3, .slice a' xs.length c'), (9, .int .i64 d), (10, ptrV v), (12, ptrV p), (13, .slice u.1.1 (ms.length + 1) u.1.2), (14, .slice u.2.1 (ws.length + 1) u.2.2), (43, .slice (some ⟨b, oo, none⟩) es.length c), (44, .int .i64 es.length), (45, .int .i64 k)])
        (fun u => slO 40 2 u.1.1 (ms.length + 1) u.1.2 (ms.flatMap EV.cells ++ [.int .u64 e.id, .slice a3 vs.length c3]) :: slO 37 2 u.2.1 (ws.length + 1) u.2.2 (ws.flatMap EV.cells ++ [.int .u64 e.id, .slice a4 vs.length c4]) :: roM M4 :: vaultH v st0 :: refH p st0 :: []) (fun _ => True) ?_ ?_
      · refine Q.dgo [true, true, false, false, false, false, false] [2, 3, 6, 7] [] [0, 1, 4, 5, 99999, 0, 0, 0, 0, 0] ?_
        repeat (first | refine D.endA ?_ | refine Q.dy rfl rfl rfl ?_ | refine Q.dp rfl rfl rfl ?_ | refine D.end_ ?_ | refine Q.endH ?_ | (refine D.e rfl rfl rfl ?_; (first | refine S.gskip1 rfl ?_ | refine S.gskip rfl ?_ | refine S.y (Y.gskipU rfl) ?_); refine opsS_nil ?_; refine N.tn ?_) | refine Q.dT rfl rfl rfl ?_ | refine Q.dF rfl rfl rfl ?_)
        refine D.two 2 6 [99999, 0, 0, 0, 0] [2, 3, 7, 8, 9] (by kernel_rfl) rfl rfl rfl rfl (by kernel_rfl) (by kernel_rfl) ?_ ?_
        · refine S.bs rfl rfl rfl rfl (by repeat (first | exact nz | (apply cz; exact rfl) | exact rfl)) (fun b7 => ?_)
          repeat (first | (refine GQ.y ?_; refine Q.y ?_) | refine Q.go ?_ | (refine GQ.g ?_; refine Q.gq ?_) | (refine GQ.s ?_; refine Q.st ?_))
          refine D.two 3 6 [6, 7, 8, 9] [3, 7, 8, 9] (by kernel_rfl) rfl rfl rfl rfl (by kernel_rfl) (by kernel_rfl) ?_ ?_
          · refine S.app rfl rfl (SrcS.sl RdC.row (by rfl) (by rfl)) (by rfl) (by omega) (by omega) (fun a8 c8 => ?_)
            repeat (first | (refine GQ.y ?_; refine Q.y ?_) | refine Q.go ?_ | (refine GQ.g ?_; refine Q.gq ?_) | (refine GQ.s ?_; refine Q.st ?_))
            repeat (first | refine D.endA ?_ | refine Q.dy rfl rfl rfl ?_ | refine Q.dp rfl rfl rfl ?_ | refine D.end_ ?_ | refine Q.endH ?_ | (refine D.e rfl rfl rfl ?_; (first | refine S.gskip1 rfl ?_ | refine S.gskip rfl ?_ | refine S.y (Y.gskipU rfl) ?_); refine opsS_nil ?_; refine N.tn ?_) | refine Q.dT rfl rfl rfl ?_ | refine Q.dF rfl rfl rfl ?_)
            refine D.e rfl rfl rfl ?_
            refine S.bs rfl rfl rfl rfl (by repeat (first | exact nz | (apply cz; exact rfl) | exact rfl)) (fun b6 => ?_)
            repeat (first | (refine GQ.y ?_; refine Q.y ?_) | refine Q.go ?_ | (refine GQ.g ?_; refine Q.gq ?_) | (refine GQ.s ?_; refine Q.st ?_))
            repeat (first | refine D.endA ?_ | refine Q.dy rfl rfl rfl ?_ | refine Q.dp rfl rfl rfl ?_ | refine D.end_ ?_ | refine Q.endH ?_ | (refine D.e rfl rfl rfl ?_; (first | refine S.gskip1 rfl ?_ | refine S.gskip rfl ?_ | refine S.y (Y.gskipU rfl) ?_); refine opsS_nil ?_; refine N.tn ?_) | refine Q.dT rfl rfl rfl ?_ | refine Q.dF rfl rfl rfl ?_)
            refine D.e rfl rfl rfl ?_
            refine S.app rfl rfl (SrcS.sl RdC.row (by rfl) (by rfl)) (by rfl) (by omega) (by omega) (fun a9 c9 => ?_)
            repeat (first | (refine GQ.y ?_; refine Q.y ?_) | refine Q.go ?_ | (refine GQ.g ?_; refine Q.gq ?_) | (refine GQ.s ?_; refine Q.st ?_))
            repeat (first | refine D.endA ?_ | refine Q.dy rfl rfl rfl ?_ | refine Q.dp rfl rfl rfl ?_ | refine D.end_ ?_ | refine Q.endH ?_ | (refine D.e rfl rfl rfl ?_; (first | refine S.gskip1 rfl ?_ | refine S.gskip rfl ?_ | refine S.y (Y.gskipU rfl) ?_); refine opsS_nil ?_; refine N.tn ?_) | refine Q.dT rfl rfl rfl ?_ | refine Q.dF rfl rfl rfl ?_)
            repeat (first | (refine GQ.y ?_; refine Q.y ?_) | refine Q.go ?_ | (refine GQ.g ?_; refine Q.gq ?_) | (refine GQ.s ?_; refine Q.st ?_) | (refine GQ.g ?_; refine Q.gd ?_) | refine Q.ct rfl ?_ | refine Q.cf rfl ?_ | (refine GQ.a ?_; refine Q.al (fun b1 => ?_)))
            exact ⟨((a8, c8), (a9, c9)), ⟨rfl, rfl, rfl, rfl, rfl, rfl, rfl, rfl, rfl, rfl, trivial⟩, by repeat (first | exact Ent.refl _ | exact Ent.nil | refine Ent.pick ?_ | refine Ent.nilS ?_ | refine Ent.nilM ?_ | refine Ent.drop ?_), trivial⟩
          · refine S.bs rfl rfl rfl rfl (by repeat (first | exact nz | (apply cz; exact rfl) | exact rfl)) (fun b6 => ?_)
            repeat (first | (refine GQ.y ?_; refine Q.y ?_) | refine Q.go ?_ | (refine GQ.g ?_; refine Q.gq ?_) | (refine GQ.s ?_; refine Q.st ?_))
            repeat (first | refine D.endA ?_ | refine Q.dy rfl rfl rfl ?_ | refine Q.dp rfl rfl rfl ?_ | refine D.end_ ?_ | refine Q.endH ?_ | (refine D.e rfl rfl rfl ?_; (first | refine S.gskip1 rfl ?_ | refine S.gskip rfl ?_ | refine S.y (Y.gskipU rfl) ?_); refine opsS_nil ?_; refine N.tn ?_) | refine Q.dT rfl rfl rfl ?_ | refine Q.dF rfl rfl rfl ?_)
            refine D.e rfl rfl rfl ?_
            refine S.app rfl rfl (SrcS.sl RdC.row (by rfl) (by rfl)) (by rfl) (by omega) (by omega) (fun a8 c8 => ?_)
            repeat (first | (refine GQ.y ?_; refine Q.y ?_) | refine Q.go ?_ | (refine GQ.g ?_; refine Q.gq ?_) | (refine GQ.s ?_; refine Q.st ?_))
            repeat (first | refine D.endA ?_ | refine Q.dy rfl rfl rfl ?_ | refine Q.dp rfl rfl rfl ?_ | refine D.end_ ?_ | refine Q.endH ?_ | (refine D.e rfl rfl rfl ?_; (first | refine S.gskip1 rfl ?_ | refine S.gskip rfl ?_ | refine S.y (Y.gskipU rfl) ?_); refine opsS_nil ?_; refine N.tn ?_) | refine Q.dT rfl rfl rfl ?_ | refine Q.dF rfl rfl rfl ?_)
            refine D.e rfl rfl rfl ?_
            refine S.app rfl rfl (SrcS.sl RdC.row (by rfl) (by rfl)) (by rfl) (by omega) (by omega) (fun a9 c9 => ?_)
            repeat (first | (refine GQ.y ?_; refine Q.y ?_) | refine Q.go ?_ | (refine GQ.g ?_; refine Q.gq ?_) | (refine GQ.s ?_; refine Q.st ?_))
            repeat (first | refine D.endA ?_ | refine Q.dy rfl rfl rfl ?_ | refine Q.dp rfl rfl rfl ?_ | refine D.end_ ?_ | refine Q.endH ?_ | (refine D.e rfl rfl rfl ?_; (first | refine S.gskip1 rfl ?_ | refine S.gskip rfl ?_ | refine S.y (Y.gskipU rfl) ?_); refine opsS_nil ?_; refine N.tn ?_) | refine Q.dT rfl rfl rfl ?_ | refine Q.dF rfl rfl rfl ?_)
            repeat (first | (refine GQ.y ?_; refine Q.y ?_) | refine Q.go ?_ | (refine GQ.g ?_; refine Q.gq ?_) | (refine GQ.s ?_; refine Q.st ?_) | (refine GQ.g ?_; refine Q.gd ?_) | refine Q.ct rfl ?_ | refine Q.cf rfl ?_ | (refine GQ.a ?_; refine Q.al (fun b1 => ?_)))
            exact ⟨((a8, c8), (a9, c9)), ⟨rfl, rfl, rfl, rfl, rfl, rfl, rfl, rfl, rfl, rfl, trivial⟩, by repeat (first | exact Ent.refl _ | exact Ent.nil | refine Ent.pick ?_ | refine Ent.nilS ?_ | refine Ent.nilM ?_ | refine Ent.drop ?_), trivial⟩
        · refine S.bs rfl rfl rfl rfl (by repeat (first | exact nz | (apply cz; exact rfl) | exact rfl)) (fun b6 => ?_)
          repeat (first | (refine GQ.y ?_; refine Q.y ?_) | refine Q.go ?_ | (refine GQ.g ?_; refine Q.gq ?_) | (refine GQ.s ?_; refine Q.st ?_))
          repeat (first | refine D.endA ?_ | refine Q.dy rfl rfl rfl ?_ | refine Q.dp rfl rfl rfl ?_ | refine D.end_ ?_ | refine Q.endH ?_ | (refine D.e rfl rfl rfl ?_; (first | refine S.gskip1 rfl ?_ | refine S.gskip rfl ?_ | refine S.y (Y.gskipU rfl) ?_); refine opsS_nil ?_; refine N.tn ?_) | refine Q.dT rfl rfl rfl ?_ | refine Q.dF rfl rfl rfl ?_)
          refine D.e rfl rfl rfl ?_
          refine S.bs rfl rfl rfl rfl (by repeat (first | exact nz | (apply cz; exact rfl) | exact rfl)) (fun b7 => ?_)
          repeat (first | (refine GQ.y ?_; refine Q.y ?_) | refine Q.go ?_ | (refine GQ.g ?_; refine Q.gq ?_) | (refine GQ.s ?_; refine Q.st ?_))
          repeat (first | refine D.endA ?_ | refine Q.dy rfl rfl rfl ?_ | refine Q.dp rfl rfl rfl ?_ | refine D.end_ ?_ | refine Q.endH ?_ | (refine D.e rfl rfl rfl ?_; (first | refine S.gskip1 rfl ?_ | refine S.gskip rfl ?_ | refine S.y (Y.gskipU rfl) ?_); refine opsS_nil ?_; refine N.tn ?_) | refine Q.dT rfl rfl rfl ?_ | refine Q.dF rfl rfl rfl ?_)
          refine D.e rfl rfl rfl ?_
          refine S.app rfl rfl (SrcS.sl RdC.row (by rfl) (by rfl)) (by rfl) (by omega) (by omega) (fun a8 c8 => ?_)
          repeat (first | (refine GQ.y ?_; refine Q.y ?_) | refine Q.go ?_ | (refine GQ.g ?_; refine Q.gq ?_) | (refine GQ.s ?_; refine Q.st ?_))
          repeat (first | refine D.endA ?_ | refine Q.dy rfl rfl rfl ?_ | refine Q.dp rfl rfl rfl ?_ | refine D.end_ ?_ | refine Q.endH ?_ | (refine D.e rfl rfl rfl ?_; (first | refine S.gskip1 rfl ?_ | refine S.gskip rfl ?_ | refine S.y (Y.gskipU rfl) ?_); refine opsS_nil ?_; refine N.tn ?_) | refine Q.dT rfl rfl rfl ?_ | refine Q.dF rfl rfl rfl ?_)
          refine D.e rfl rfl rfl ?_
          refine S.app rfl rfl (SrcS.sl RdC.row (by rfl) (by rfl)) (by rfl) (by omega) (by omega) (fun a9 c9 => ?_)
          repeat (first | (refine GQ.y ?_; refine Q.y ?_) | refine Q.go ?_ | (refine GQ.g ?_; refine Q.gq ?_) | (refine GQ.s ?_; refine Q.st ?_))
          repeat (first | refine D.endA ?_ | refine Q.dy rfl rfl rfl ?_ | refine Q.dp rfl rfl rfl ?_ | refine D.end_ ?_ | refine Q.endH ?_ | (refine D.e rfl rfl rfl ?_; (first | refine S.gskip1 rfl ?_ | refine S.gskip rfl ?_ | refine S.y (Y.gskipU rfl) ?_); refine opsS_nil ?_; refine N.tn ?_) | refine Q.dT rfl rfl rfl ?_ | refine Q.dF rfl rfl rfl ?_)
          repeat (first | (refine GQ.y ?_; refine Q.y ?_) | refine Q.go ?_ | (refine GQ.g ?_; refine Q.gq ?_) | (refine GQ.s ?_; refine Q.st ?_) | (refine GQ.g ?_; refine Q.gd ?_) | refine Q.ct rfl ?_ | refine Q.cf rfl ?_ | (refine GQ.a ?_; refine Q.al (fun b1 => ?_)))
          exact ⟨((a8, c8), (a9, c9)), ⟨rfl, rfl, rfl, rfl, rfl, rfl, rfl, rfl, rfl, rfl, trivial⟩, by repeat (first | exact Ent.refl _ | exact Ent.nil | refine Ent.pick ?_ | refine Ent.nilS ?_ | refine Ent.nilM ?_ | refine Ent.drop ?_), trivial⟩
      rintro ⟨⟨a8, c8⟩, ⟨a9, c9⟩⟩ -
      dsimp only
      have hl14 := hl2.trans (hl3.trans hl4)
      have hle := hl3.trans hl4
      repeat (first | (refine GQ.y ?_; refine Q.y ?_) | refine Q.go ?_ | (refine GQ.g ?_; refine Q.gq ?_) | (refine GQ.s ?_; refine Q.st ?_) | (refine GQ.g ?_; refine Q.gd ?_) | refine Q.ct rfl ?_ | refine Q.cf rfl ?_ | (refine GQ.a ?_; refine Q.al (fun b1 => ?_)))
      refine ⟨(k + 1, (ms ++ [⟨e.id, a3, c3, vs⟩], a8, c8), (ws ++ [⟨e.id, a4, c4, vs⟩], a9, c9), M4), ⟨rfl, rfl, rfl, rfl, rfl, rfl, rfl, congrArg some (by simp), congrArg some (by simp), rfl, trivial⟩, ?_, ⟨by dsimp only; omega, by dsimp only; omega, by simp [hml], by dsimp only; rw [List.map_append, List.map_append, hmw]; rfl, fun f hf => ?_, fun f hf => ?_, hl1.trans hl14⟩, by dsimp only; omega⟩
      · dsimp only
        rw [len_snoc, len_snoc, flat_snoc, flat_snoc]
        repeat (first | exact Ent.refl _ | exact Ent.nil | refine Ent.pick ?_ | refine Ent.nilS ?_ | refine Ent.nilM ?_ | refine Ent.drop ?_)
      · rcases List.mem_append.1 hf with hf | hf
        · exact (hmo f hf).mono hl14
        · obtain rfl := List.mem_singleton.1 hf
          exact ⟨⟨hs3.mono hl4, fun w hw2 => (hvo w hw2).mono hle⟩, hv6, hvv⟩
      · rcases List.mem_append.1 hf with hf | hf
        · exact (hwo f hf).mono hl14
        · obtain rfl := List.mem_singleton.1 hf
          exact ⟨⟨hs4, fun w hw2 => (hvo w hw2).mono hle⟩, hv6, hvv⟩
    · have hke : k = es.length := by omega
      subst hke
      repeat (first | (refine GQ.y ?_; refine Q.y ?_) | refine Q.go ?_ | (refine GQ.g ?_; refine Q.gq ?_) | (refine GQ.s ?_; refine Q.st ?_) | (refine GQ.g ?_; refine Q.gd ?_) | refine Q.ct rfl ?_ | refine Q.cf rfl ?_ | (refine GQ.a ?_; refine Q.al (fun b1 => ?_)))
      exact ⟨((ms, a1, c1), (ws, a2, c2), M1), ⟨rfl, rfl, rfl, rfl, rfl, rfl, rfl, trivial⟩, by repeat (first | exact Ent.refl _ | exact Ent.nil | refine Ent.pick ?_ | refine Ent.nilS ?_ | refine Ent.nilM ?_ | refine Ent.drop ?_), by dsimp only; omega, hmw, hmo, hwo, hl1⟩
  rintro ⟨⟨ms, a1, c1⟩, ⟨ws, a2, c2⟩, M1⟩ ⟨hm8, hmw, hmo, hwo, hl1⟩
  dsimp only at hm8 hmw hmo hwo hl1 ⊢
  refine swp_abs a1 (fun M2 hl2 hs1 => ?_)
  refine swp_abs a2 (fun M3 hl3 hs2 => ?_)
  have hl13 := hl1.trans (hl2.trans hl3)
  have hmo3 : ∀ e ∈ ms, EBK M3 e := fun e hm => (hmo e hm).mono (hl2.trans hl3)
  have hwo3 : ∀ e ∈ ws, EBK M3 e := fun e hm => (hwo e hm).mono (hl2.trans hl3)
  have hwl : ws.length = ms.length := by
    have := congrArg List.length hmw
    simp at this; omega
  repeat (first | (refine GQ.y ?_; refine Q.y ?_) | refine Q.go ?_ | (refine GQ.g ?_; refine Q.gq ?_) | (refine GQ.s ?_; refine Q.st ?_) | (refine GQ.g ?_; refine Q.gd ?_) | refine Q.ct rfl ?_ | refine Q.cf rfl ?_ | (refine GQ.a ?_; refine Q.al (fun b1 => ?_)))
  refine opsS_ent (L' := vaultH v st0 :: roM M3 :: refH p st0 :: []) (by repeat (first | exact Ent.refl _ | exact Ent.nil | refine Ent.pick ?_ | refine Ent.nilS ?_ | refine Ent.nilM ?_ | refine Ent.drop ?_)) ?_
  refine S.cr rfl (Load_spec v st0 mark a1 c1 ms M3 _ ⟨hs1.mono hl3, fun e hm => (hmo3 e hm).1⟩ (by omega) (fun e hm => ⟨by have := (hmo3 e hm).2.1; omega, fun o ho => by have := ((hmo3 e hm).2.2 o ho).1; omega⟩) (hwf0.mono (by omega))) ?_
  rintro _ _ ⟨rfl, rfl⟩
  repeat (first | (refine GQ.y ?_; refine Q.y ?_) | refine Q.go ?_ | (refine GQ.g ?_; refine Q.gq ?_) | (refine GQ.s ?_; refine Q.st ?_) | (refine GQ.g ?_; refine Q.gd ?_) | refine Q.ct rfl ?_ | refine Q.cf rfl ?_ | (refine GQ.a ?_; refine Q.al (fun b1 => ?_)))
  refine opsS_ent (L' := refH p st0 :: roM M3 :: vaultH v (loadS st0 mark (ms.map EV.abs)) :: []) (by repeat (first | exact Ent.refl _ | exact Ent.nil | refine Ent.pick ?_ | refine Ent.nilS ?_ | refine Ent.nilM ?_ | refine Ent.drop ?_)) ?_
  refine S.cr rfl (RLoad_spec p st0 6 mark a2 c2 ws M3 _ hwf0.wf (by omega) ⟨hs2, fun e hm => (hwo3 e hm).1⟩ (by omega) (fun e hm => ⟨by have := (hwo3 e hm).2.1; omega, fun o ho => by have := (hwo3 e hm).2.2 o ho; omega⟩)) ?_
  rintro _ _ ⟨rfl, rfl⟩
  rw [← hmw]
  have hlw := load_wf (mark := mark) (l := ms.map EV.abs) hwf0 hgs0 (by rw [List.length_map]; exact hm8) (fun e hm => by
    obtain ⟨f, hf, rfl⟩ := List.mem_map.1 hm
    rw [List.length_map]; exact (hmo f hf).2.1)
  have hdim : (loadS st0 mark (ms.map EV.abs)).dim = d := by unfold loadS; split <;> exact hsd
  generalize loadE st0 mark (ms.map EV.abs) = le
  generalize loadS st0 mark (ms.map EV.abs) = st1 at hlw hdim ⊢
  obtain ⟨hwf1, hgs1⟩ := hlw
  clear hmw hmo hwo hmo3 hwo3 hs1 hs2 hwf0 hgs0 hwl hm8 hsd
  repeat (first | (refine GQ.y ?_; refine Q.y ?_) | refine Q.go ?_ | (refine GQ.g ?_; refine Q.gq ?_) | (refine GQ.s ?_; refine Q.st ?_) | (refine GQ.g ?_; refine Q.gd ?_) | refine Q.ct rfl ?_ | refine Q.cf rfl ?_ | (refine GQ.a ?_; refine Q.al (fun b1 => ?_)))
  refine swp_cutB (σ := VS × (Nat → Option Obj)) (fun u => [(3, .slice a' xs.length c'), (9, .int .i64 d), (10, ptrV v), (12, ptrV p)]) (fun u => vaultH v u.1 :: refH p u.1 :: roM u.2 :: []) (fun u => WFK u.1 31 ∧ GS u.1 ∧ u.1.dim = d ∧ leM M u.2) ?_ ?_
  · refine swp_loop (σ := Nat × VS × (Nat → Option Obj)) (fun u => [(3, .slice a' xs.length c'), (9, .int .i64 d), (10, ptrV v), (12, ptrV p), (103, .slice a' xs.length c'), (104, .int .i64 xs.length), (105, .int .i64 u.1)]) (fun u => vaultH v u.2.1 :: refH p u.2.1 :: roM u.2.2 :: [])
      (fun u => u.1 ≤ xs.length ∧ WFK u.2.1 (6 + min u.1 25) ∧ GS u.2.1 ∧ u.2.1.dim = d ∧ leM M u.2.2) (fun u => xs.length - u.1) (0, st1, M3) ⟨rfl, rfl, rfl, rfl, rfl, rfl, rfl, trivial⟩ (by repeat (first | exact Ent.refl _ | exact Ent.nil | refine Ent.pick ?_ | refine Ent.nilS ?_ | refine Ent.nilM ?_ | refine Ent.drop ?_)) ⟨by omega, hwf1, hgs1, hdim, hl13⟩ ?_
    rintro ⟨k, st, M4⟩ ⟨hk, hwf, hgs, hds, hl4⟩
    dsimp only at hk hwf hgs hds hl4 ⊢
    by_cases hlt : k < xs.length
    · obtain ⟨o, ho⟩ := mem_get hlt
      have hdo := (hx o (List.mem_of_getElem? ho)).mono hl4
      have hrs : RdS (vaultH v st :: refH p st :: roM M4 :: []) a' xs.length 8 (xs.flatMap DV.cells) := (SlM.mono h' hl4).rd
      obtain ⟨b, oo, hia, hr⟩ := RdS.elem (g := DV.cells) (fun _ => rfl) hrs ho rfl
      rw [hia]
      by_cases h25 : (k : Int) < 25
      · repeat (first | (refine GQ.y ?_; refine Q.y ?_) | refine Q.go ?_ | (refine GQ.g ?_; refine Q.gq ?_) | (refine GQ.s ?_; refine Q.st ?_) | (refine GQ.g ?_; refine Q.gd ?_) | refine Q.ct rfl ?_ | refine Q.cf rfl ?_ | (refine GQ.a ?_; refine Q.al (fun b1 => ?_)))
        refine opsS_ent (L' := vaultH v st :: refH p st :: roM M4 :: [pt b1 (cl o.cells 53)]) (by repeat (first | exact Ent.refl _ | exact Ent.nil | refine Ent.pick ?_ | refine Ent.nilS ?_ | refine Ent.nilM ?_ | refine Ent.drop ?_)) ?_
        refine S.cr rfl (Do_spec v p st _ o M4 _ hwf.wf (by omega) hdo.1 hdo.2.1 hdo.2.2.1 hdo.2.2.2.1) ?_
        rintro _ _ ⟨rfl, M5, hl5, rfl⟩
        have hwf2 := hwf.do_ o
        have hgs2 := hgs.do_ hwf o hdo.2.2.2.1
        have hds2 := (doS_dim st o).trans hds
        generalize doS st o = st2 at hwf2 hgs2 hds2 ⊢
        have hdo2 := hdo.mono hl5
        repeat (first | (refine GQ.y ?_; refine Q.y ?_) | refine Q.go ?_ | (refine GQ.g ?_; refine Q.gq ?_) | (refine GQ.s ?_; refine Q.st ?_) | (refine GQ.g ?_; refine Q.gd ?_) | refine Q.ct rfl ?_ | refine Q.cf rfl ?_ | (refine GQ.a ?_; refine Q.al (fun b1 => ?_)))
        refine opsS_ent (L' := vaultH v st2 :: refH p st2 :: roM M5 :: [pt b1 (cl o.cells 53)]) (by repeat (first | exact Ent.refl _ | exact Ent.nil | refine Ent.pick ?_ | refine Ent.nilS ?_ | refine Ent.nilM ?_ | refine Ent.drop ?_)) ?_
        refine S.cr rfl (asks_spec v p st2 _ o M5 _ hwf2.wf (by omega) hdo2.2.2.2.2.1 hdo2.2.2.2.2.2.1 hdo2.2.2.2.2.2.2) ?_
        rintro _ _ ⟨rfl, M6, hl6, rfl⟩
        repeat (first | (refine GQ.y ?_; refine Q.y ?_) | refine Q.go ?_ | (refine GQ.g ?_; refine Q.gq ?_) | (refine GQ.s ?_; refine Q.st ?_) | (refine GQ.g ?_; refine Q.gd ?_) | refine Q.ct rfl ?_ | refine Q.cf rfl ?_ | (refine GQ.a ?_; refine Q.al (fun b1 => ?_)))
        refine ⟨(k + 1, st2, M6), ⟨rfl, rfl, rfl, rfl, rfl, rfl, rfl, trivial⟩, by repeat (first | exact Ent.refl _ | exact Ent.nil | refine Ent.pick ?_ | refine Ent.nilS ?_ | refine Ent.nilM ?_ | refine Ent.drop ?_), ⟨by dsimp only; omega, hwf2.mono (by dsimp only; omega), hgs2, hds2, hl4.trans (hl5.trans hl6)⟩, by dsimp only; omega⟩
      · repeat (first | (refine GQ.y ?_; refine Q.y ?_) | refine Q.go ?_ | (refine GQ.g ?_; refine Q.gq ?_) | (refine GQ.s ?_; refine Q.st ?_) | (refine GQ.g ?_; refine Q.gd ?_) | refine Q.ct rfl ?_ | refine Q.cf rfl ?_ | (refine GQ.a ?_; refine Q.al (fun b1 => ?_)))
        refine ⟨(k + 1, st, M4), ⟨rfl, rfl, rfl, rfl, rfl, rfl, rfl, trivial⟩, by repeat (first | exact Ent.refl _ | exact Ent.nil | refine Ent.pick ?_ | refine Ent.nilS ?_ | refine Ent.nilM ?_ | refine Ent.drop ?_), ⟨by dsimp only; omega, hwf.mono (by dsimp only; omega), hgs, hds, hl4⟩, by dsimp only; omega⟩
    · have hke : k = xs.length := by omega
      subst hke
      repeat (first | (refine GQ.y ?_; refine Q.y ?_) | refine Q.go ?_ | (refine GQ.g ?_; refine Q.gq ?_) | (refine GQ.s ?_; refine Q.st ?_) | (refine GQ.g ?_; refine Q.gd ?_) | refine Q.ct rfl ?_ | refine Q.cf rfl ?_ | (refine GQ.a ?_; refine Q.al (fun b1 => ?_)))
      exact ⟨(st, M4), ⟨rfl, rfl, rfl, rfl, trivial⟩, Ent.refl _, hwf.mono (by omega), hgs, hds, hl4⟩
  rintro ⟨st, M4⟩ ⟨hwf, hgs, hds, hl4⟩
  dsimp only at hwf hgs hds hl4 ⊢
  clear hwf1 hgs1 hdim hl1 hl2 hl3 hl13 st1 le
  repeat (first | (refine GQ.y ?_; refine Q.y ?_) | refine Q.go ?_ | (refine GQ.g ?_; refine Q.gq ?_) | (refine GQ.s ?_; refine Q.st ?_) | (refine GQ.g ?_; refine Q.gd ?_) | refine Q.ct rfl ?_ | refine Q.cf rfl ?_ | (refine GQ.a ?_; refine Q.al (fun b1 => ?_)))
  -- laden it takes none
  refine S.cv v rfl (DumpO_spec v st 31 _ hwf.wf (by omega)) ?_
  rintro _ _ ⟨a3, c3, es3, rfl, hep3, -, rfl⟩
  repeat (first | (refine GQ.y ?_; refine Q.y ?_) | refine Q.go ?_ | (refine GQ.g ?_; refine Q.gq ?_) | (refine GQ.s ?_; refine Q.st ?_) | (refine GQ.g ?_; refine Q.gd ?_) | refine Q.ct rfl ?_ | refine Q.cf rfl ?_ | (refine GQ.a ?_; refine Q.al (fun b1 => ?_)))
  refine S.cv v rfl (IntentsO_spec v st 31 _ hwf.wf (by omega)) ?_
  rintro _ _ ⟨a4, c4, is4, rfl, hip4, -, rfl⟩
  have he3 : es3.length = st.ch.length := by have := hep3.length_eq; rwa [List.length_map] at this
  have hi4 : is4.length = st.its.length := by have := hip4.length_eq; rwa [List.length_map] at this
  have hcl := hwf.wf.cl
  have hil := hwf.wf.il
  refine opsS_cutT (σ := Unit) (fun _ => [(3, .slice a' xs.length c'), (9, .int .i64 d), (10, ptrV v), (12, ptrV p), (139, .bool false)]) (fun _ => vaultH v st :: refH p st :: roM M4 :: []) (fun _ => True) ?_ ?_
  · by_cases h0 : (0 : Int) < (es3.length : Int) + is4.length
    · repeat (first | (refine GQ.y ?_; refine Q.y ?_) | refine Q.go ?_ | (refine GQ.g ?_; refine Q.gq ?_) | (refine GQ.s ?_; refine Q.st ?_) | (refine GQ.g ?_; refine Q.gd ?_) | refine Q.ct rfl ?_ | refine Q.cf rfl ?_ | (refine GQ.a ?_; refine Q.al (fun b1 => ?_)))
      refine opsS_ent (L' := vaultH v st :: roM M4 :: refH p st :: []) (by repeat (first | exact Ent.refl _ | exact Ent.nil | refine Ent.pick ?_ | refine Ent.nilS ?_ | refine Ent.nilM ?_ | refine Ent.drop ?_)) ?_
      refine S.cr rfl (Load_spec v st 0 none 0 [] M4 _ ⟨⟨rfl, .inl rfl⟩, by simp⟩ (by simp) (by simp) (hwf.mono (by omega))) ?_
      rintro _ _ ⟨rfl, rfl⟩
      have e1 : loadE st 0 (([] : List EV).map EV.abs) = 10 := by
        unfold loadE
        rw [if_neg (by decide)]
        show (if (ldF st.dim [] []).isNone = true then (4 : Int) else _) = 10
        unfold ldF
        simp only [Option.isNone_some, Bool.false_eq_true, if_false]
        rw [if_pos (by omega)]
      have e2 : loadS st 0 (([] : List EV).map EV.abs) = st := by unfold loadS; rw [if_neg (by rw [e1]; simp)]
      rw [e1, e2]
      repeat (first | (refine GQ.y ?_; refine Q.y ?_) | refine Q.go ?_ | (refine GQ.g ?_; refine Q.gq ?_) | (refine GQ.s ?_; refine Q.st ?_) | (refine GQ.g ?_; refine Q.gd ?_) | refine Q.ct rfl ?_ | refine Q.cf rfl ?_ | (refine GQ.a ?_; refine Q.al (fun b1 => ?_)))
      exact ⟨(), ⟨rfl, rfl, rfl, rfl, rfl, trivial⟩, by repeat (first | exact Ent.refl _ | exact Ent.nil | refine Ent.pick ?_ | refine Ent.nilS ?_ | refine Ent.nilM ?_ | refine Ent.drop ?_), trivial⟩
    · repeat (first | (refine GQ.y ?_; refine Q.y ?_) | refine Q.go ?_ | (refine GQ.g ?_; refine Q.gq ?_) | (refine GQ.s ?_; refine Q.st ?_) | (refine GQ.g ?_; refine Q.gd ?_) | refine Q.ct rfl ?_ | refine Q.cf rfl ?_ | (refine GQ.a ?_; refine Q.al (fun b1 => ?_)))
      exact ⟨(), ⟨rfl, rfl, rfl, rfl, rfl, trivial⟩, by repeat (first | exact Ent.refl _ | exact Ent.nil | refine Ent.pick ?_ | refine Ent.nilS ?_ | refine Ent.nilM ?_ | refine Ent.drop ?_), trivial⟩
  rintro ⟨⟩ -
  clear he3 hi4 hep3 hip4 es3 is4 a3 c3 a4 c4
  repeat (first | (refine GQ.y ?_; refine Q.y ?_) | refine Q.go ?_ | (refine GQ.g ?_; refine Q.gq ?_) | (refine GQ.s ?_; refine Q.st ?_) | (refine GQ.g ?_; refine Q.gd ?_) | refine Q.ct rfl ?_ | refine Q.cf rfl ?_ | (refine GQ.a ?_; refine Q.al (fun b1 => ?_)))
  -- all are freed
  refine S.cv v rfl (IntentsO_spec v st 31 _ hwf.wf (by omega)) ?_
  rintro _ _ ⟨a3, c3, es, rfl, hep, -, rfl⟩
  have hel : es.length ≤ 31 := by
    have h1 := hep.length_eq
    rw [List.length_map] at h1
    omega
  refine opsS_addr a3 (fun ha3 => ?_)
  repeat (first | (refine GQ.y ?_; refine Q.y ?_) | refine Q.go ?_ | (refine GQ.g ?_; refine Q.gq ?_) | (refine GQ.s ?_; refine Q.st ?_) | (refine GQ.g ?_; refine Q.gd ?_) | refine Q.ct rfl ?_ | refine Q.cf rfl ?_ | (refine GQ.a ?_; refine Q.al (fun b1 => ?_)))
  refine swp_cutB (σ := Unit) (fun _ => [(3, .slice a' xs.length c'), (9, .int .i64 d), (10, ptrV v), (12, ptrV p)]) (fun _ => vaultH v { st with its := [] } :: refH p { st with its := [] } :: roM M4 :: []) (fun _ => True) ?_ ?_
  · refine swp_loop (σ := Nat × List (Int × Int × VL)) (fun u => [(3, .slice a' xs.length c'), (9, .int .i64 d), (10, ptrV v), (12, ptrV p), (141, .slice a3 es.length c3), (142, .int .i64 es.length), (143, .int .i64 u.1)])
      (fun u => slO 58 3 a3 es.length c3 (es.flatMap IV.cells) :: vaultH v { st with its := u.2 } :: refH p { st with its := u.2 } :: roM M4 :: [])
      (fun u => u.1 ≤ es.length ∧ WFK { st with its := u.2 } 31 ∧ ∀ w ∈ u.2, w ∈ st.its ∧ ∀ e ∈ es.take u.1, w.1 ≠ e.txn) (fun u => es.length - u.1) (0, st.its) ⟨rfl, rfl, rfl, rfl, rfl, rfl, rfl, trivial⟩ (by repeat (first | exact Ent.refl _ | exact Ent.nil | refine Ent.pick ?_ | refine Ent.nilS ?_ | refine Ent.nilM ?_ | refine Ent.drop ?_)) ⟨by omega, hwf, fun w hw => ⟨hw, fun e he => by cases he⟩⟩ ?_
    rintro ⟨k, l⟩ ⟨hk, hwl, hall⟩
    dsimp only at hk hwl hall ⊢
    by_cases hlt : k < es.length
    · obtain ⟨e, hee⟩ := mem_get hlt
      rcases ha3 with ha3 | ⟨b3, rfl⟩
      · omega
      have hr : RdC (slO 58 3 (some ⟨b3, 0, none⟩) es.length c3 (es.flatMap IV.cells) :: vaultH v { st with its := l } :: refH p { st with its := l } :: roM M4 :: []) b3 (0 + k * 3) (IV.cells e) := RdC.elem (g := IV.cells) (fun _ => rfl) RdC.ofS hee
      repeat (first | (refine GQ.y ?_; refine Q.y ?_) | refine Q.go ?_ | (refine GQ.g ?_; refine Q.gq ?_) | (refine GQ.s ?_; refine Q.st ?_) | (refine GQ.g ?_; refine Q.gd ?_) | refine Q.ct rfl ?_ | refine Q.cf rfl ?_ | (refine GQ.a ?_; refine Q.al (fun b1 => ?_)))
      refine S.cv v rfl (Free_spec v _ e.txn _) ?_
      rintro _ _ ⟨rfl, rfl⟩
      repeat (first | (refine GQ.y ?_; refine Q.y ?_) | refine Q.go ?_ | (refine GQ.g ?_; refine Q.gq ?_) | (refine GQ.s ?_; refine Q.st ?_) | (refine GQ.g ?_; refine Q.gd ?_) | refine Q.ct rfl ?_ | refine Q.cf rfl ?_ | (refine GQ.a ?_; refine Q.al (fun b1 => ?_)))
      refine S.cf p rfl (RFree_spec p _ e.txn _ (by have := hwl.wf.il; dsimp only at this ⊢; omega)) ?_
      rintro _ _ ⟨rfl, rfl⟩
      dsimp only
      repeat (first | (refine GQ.y ?_; refine Q.y ?_) | refine Q.go ?_ | (refine GQ.g ?_; refine Q.gq ?_) | (refine GQ.s ?_; refine Q.st ?_) | (refine GQ.g ?_; refine Q.gd ?_) | refine Q.ct rfl ?_ | refine Q.cf rfl ?_ | (refine GQ.a ?_; refine Q.al (fun b1 => ?_)))
      refine ⟨(k + 1, delL l e.txn), ⟨rfl, rfl, rfl, rfl, rfl, rfl, rfl, trivial⟩, by repeat (first | exact Ent.refl _ | exact Ent.nil | refine Ent.pick ?_ | refine Ent.nilS ?_ | refine Ent.nilM ?_ | refine Ent.drop ?_), ⟨by dsimp only; omega, hwl.free e.txn, fun w hw => ?_⟩, by dsimp only; omega⟩
      have hw2 := List.mem_filter.1 hw
      refine ⟨(hall w hw2.1).1, fun f hf => ?_⟩
      dsimp only at hf
      rw [take_snoc hee] at hf
      rcases List.mem_append.1 hf with hf | hf
      · exact (hall w hw2.1).2 f hf
      · obtain rfl := List.mem_singleton.1 hf
        simpa using hw2.2
    · have hke : k = es.length := by omega
      subst hke
      rw [List.take_length] at hall
      have hl0 : l = [] := by
        cases l with
        | nil => rfl
        | cons w l =>
          exfalso
          obtain ⟨h1, h2⟩ := hall w (by simp)
          obtain ⟨e, he, hew⟩ := List.mem_map.1 (hep.mem_iff.2 h1)
          exact h2 e he (by rw [← hew])
      subst hl0
      repeat (first | (refine GQ.y ?_; refine Q.y ?_) | refine Q.go ?_ | (refine GQ.g ?_; refine Q.gq ?_) | (refine GQ.s ?_; refine Q.st ?_) | (refine GQ.g ?_; refine Q.gd ?_) | refine Q.ct rfl ?_ | refine Q.cf rfl ?_ | (refine GQ.a ?_; refine Q.al (fun b1 => ?_)))
      exact ⟨(), ⟨rfl, rfl, rfl, rfl, trivial⟩, by repeat (first | exact Ent.refl _ | exact Ent.nil | refine Ent.pick ?_ | refine Ent.nilS ?_ | refine Ent.nilM ?_ | refine Ent.drop ?_), trivial⟩
  rintro ⟨⟩ -
  have hwf2 : WFK { st with its := [] } 31 := ⟨⟨hwf.wf.d1, hwf.wf.d2, Nat.zero_le _, by simp, hwf.wf.cl, hwf.wf.co⟩, hwf.k1, by simp [keysOK]⟩
  clear hep hel ha3 es a3 c3
  repeat (first | (refine GQ.y ?_; refine Q.y ?_) | refine Q.go ?_ | (refine GQ.g ?_; refine Q.gq ?_) | (refine GQ.s ?_; refine Q.st ?_) | (refine GQ.g ?_; refine Q.gd ?_) | refine Q.ct rfl ?_ | refine Q.cf rfl ?_ | (refine GQ.a ?_; refine Q.al (fun b1 => ?_)))
  -- what it dumps another one loads
  refine S.cr rfl (New_spec d _ hg1 (by omega)) ?_
  rintro _ _ ⟨v2, rfl, rfl⟩
  repeat (first | (refine GQ.y ?_; refine Q.y ?_) | refine Q.go ?_ | (refine GQ.g ?_; refine Q.gq ?_) | (refine GQ.s ?_; refine Q.st ?_) | (refine GQ.g ?_; refine Q.gd ?_) | refine Q.ct rfl ?_ | refine Q.cf rfl ?_ | (refine GQ.a ?_; refine Q.al (fun b1 => ?_)))
  refine S.cv v rfl (Mark_spec v _ _) ?_
  rintro _ _ ⟨rfl, rfl⟩
  repeat (first | (refine GQ.y ?_; refine Q.y ?_) | refine Q.go ?_ | (refine GQ.g ?_; refine Q.gq ?_) | (refine GQ.s ?_; refine Q.st ?_) | (refine GQ.g ?_; refine Q.gd ?_) | refine Q.ct rfl ?_ | refine Q.cf rfl ?_ | (refine GQ.a ?_; refine Q.al (fun b1 => ?_)))
  refine S.cv v rfl (DumpO_spec v { st with its := [] } 31 _ hwf2.wf (by omega)) ?_
  rintro _ _ ⟨a3, c3, es3, rfl, hep, hes, rfl⟩
  dsimp only at hep ⊢
  refine opsS_ent (L' := slO 40 2 a3 es3.length c3 (es3.flatMap EV.cells) :: entH es3 :: roM M4 :: vaultH v2 ⟨d, [], [], 0⟩ :: refH p { st with its := [] } :: []) (by repeat (first | exact Ent.refl _ | exact Ent.nil | refine Ent.pick ?_ | refine Ent.nilS ?_ | refine Ent.nilM ?_ | refine Ent.drop ?_)) ?_
  refine opsS_abs a3 (fun M5 hl5 hs3 => ?_)
  refine opsS_absE es3 (fun M6 hl6 hi3 => ?_)
  have hk3 : keysOK (es3.map EV.abs) := (hep.map (fun c : Int × VL => c.1)).nodup_iff.2 hwf.k1
  have hg3 : ∀ e ∈ es3.map EV.abs, goodC d e := fun e he => by have := hgs.c e (hep.mem_iff.1 he); rwa [hds] at this
  have he3 : es3.length = st.ch.length := by have := hep.length_eq; rwa [List.length_map] at this
  have hv3 : ∀ e ∈ es3, e.vs.length ≤ 1000 ∧ ∀ o ∈ e.vs, o.vec.length ≤ 1000 := fun e he => by
    have h1 := hwf.wf.co e.abs (hep.mem_iff.1 (List.mem_map_of_mem he))
    refine ⟨by have := h1.2.1; simp at this; omega, fun o ho => ?_⟩
    have := h1.2.2 o.abs (List.mem_map_of_mem ho)
    dsimp only at this; omega
  have hE0 := load_again (dim := d) hk3 hg3 hgs.m
  have hS0 : loadS ⟨d, [], [], 0⟩ st.mark (es3.map EV.abs) = ⟨d, es3.map EV.abs, [], st.mark⟩ := by unfold loadS; rw [if_pos hE0]
  repeat (first | (refine GQ.y ?_; refine Q.y ?_) | refine Q.go ?_ | (refine GQ.g ?_; refine Q.gq ?_) | (refine GQ.s ?_; refine Q.st ?_) | (refine GQ.g ?_; refine Q.gd ?_) | refine Q.ct rfl ?_ | refine Q.cf rfl ?_ | (refine GQ.a ?_; refine Q.al (fun b1 => ?_)))
  refine opsS_ent (L' := vaultH v2 ⟨d, [], [], 0⟩ :: roM M6 :: refH p { st with its := [] } :: []) (by repeat (first | exact Ent.refl _ | exact Ent.nil | refine Ent.pick ?_ | refine Ent.nilS ?_ | refine Ent.nilM ?_ | refine Ent.drop ?_)) ?_
  refine S.cr rfl (Load_spec v2 ⟨d, [], [], 0⟩ st.mark a3 c3 es3 M6 _ ⟨hs3.mono hl6, hi3⟩ (by omega) hv3 ⟨WF0 d hg1 (by omega) _, by simp [keysOK], by simp [keysOK]⟩) ?_
  rintro _ _ ⟨rfl, rfl⟩
  rw [hE0, hS0]
  have hwfb : WFK ⟨d, es3.map EV.abs, [], st.mark⟩ 31 := ⟨⟨hg1, by dsimp only; omega, Nat.zero_le _, by simp, by dsimp only; rw [List.length_map]; omega, fun c hc => hwf.wf.co c (hep.mem_iff.1 hc)⟩, hk3, by simp [keysOK]⟩
  refine opsS_ent (L' := refH p ⟨d, es3.map EV.abs, [], st.mark⟩ :: vaultH v2 ⟨d, es3.map EV.abs, [], st.mark⟩ :: roM M6 :: []) (Ent.trans (?_ : Ent _ (refH p { st with its := [] } :: vaultH v2 ⟨d, es3.map EV.abs, [], st.mark⟩ :: roM M6 :: [])) (ref_perm hds.symm rfl rfl hep.symm hk3)) ?_
  · repeat (first | exact Ent.refl _ | exact Ent.nil | refine Ent.pick ?_ | refine Ent.nilS ?_ | refine Ent.nilM ?_ | refine Ent.drop ?_)
  have hl46 := hl4.trans (hl5.trans hl6)
  generalize (⟨d, es3.map EV.abs, [], st.mark⟩ : VS) = stb at hwfb ⊢
  clear hE0 hS0 hv3 hg3 hk3 hwf2 hgs hwf
  repeat (first | (refine GQ.y ?_; refine Q.y ?_) | refine Q.go ?_ | (refine GQ.g ?_; refine Q.gq ?_) | (refine GQ.s ?_; refine Q.st ?_) | (refine GQ.g ?_; refine Q.gd ?_) | refine Q.ct rfl ?_ | refine Q.cf rfl ?_ | (refine GQ.a ?_; refine Q.al (fun b1 => ?_)))
  refine swp_cutB (σ := Unit) (fun _ => []) (fun _ => []) (fun _ => True) ?_ ?_
  · refine swp_loop (σ := Nat × (Nat → Option Obj)) (fun u => [(12, ptrV p), (25, ptrV v2), (168, .slice a' xs.length c'), (169, .int .i64 xs.length), (170, .int .i64 u.1)]) (fun u => vaultH v2 stb :: refH p stb :: roM u.2 :: [])
      (fun u => u.1 ≤ xs.length ∧ leM M u.2) (fun u => xs.length - u.1) (0, M6) ⟨rfl, rfl, rfl, rfl, rfl, trivial⟩ (by repeat (first | exact Ent.refl _ | exact Ent.nil | refine Ent.pick ?_ | refine Ent.nilS ?_ | refine Ent.nilM ?_ | refine Ent.drop ?_)) ⟨by omega, hl46⟩ ?_
    rintro ⟨k, M7⟩ ⟨hk, hl7⟩
    dsimp only at hk hl7 ⊢
    by_cases hlt : k < xs.length
    · obtain ⟨o, ho⟩ := mem_get hlt
      have hdo := (hx o (List.mem_of_getElem? ho)).mono hl7
      have hrs : RdS (vaultH v2 stb :: refH p stb :: roM M7 :: []) a' xs.length 8 (xs.flatMap DV.cells) := (SlM.mono h' hl7).rd
      obtain ⟨b, oo, hia, hr⟩ := RdS.elem (g := DV.cells) (fun _ => rfl) hrs ho rfl
      rw [hia]
      by_cases h25 : (k : Int) < 25
      · repeat (first | (refine GQ.y ?_; refine Q.y ?_) | refine Q.go ?_ | (refine GQ.g ?_; refine Q.gq ?_) | (refine GQ.s ?_; refine Q.st ?_) | (refine GQ.g ?_; refine Q.gd ?_) | refine Q.ct rfl ?_ | refine Q.cf rfl ?_ | (refine GQ.a ?_; refine Q.al (fun b1 => ?_)))
        refine opsS_ent (L' := vaultH v2 stb :: refH p stb :: roM M7 :: [pt b1 (cl o.cells 53)]) (by repeat (first | exact Ent.refl _ | exact Ent.nil | refine Ent.pick ?_ | refine Ent.nilS ?_ | refine Ent.nilM ?_ | refine Ent.drop ?_)) ?_
        refine S.cr rfl (asks_spec v2 p stb 31 o M7 _ hwfb.wf (by omega) hdo.2.2.2.2.1 hdo.2.2.2.2.2.1 hdo.2.2.2.2.2.2) ?_
        rintro _ _ ⟨rfl, M8, hl8, rfl⟩
        repeat (first | (refine GQ.y ?_; refine Q.y ?_) | refine Q.go ?_ | (refine GQ.g ?_; refine Q.gq ?_) | (refine GQ.s ?_; refine Q.st ?_) | (refine GQ.g ?_; refine Q.gd ?_) | refine Q.ct rfl ?_ | refine Q.cf rfl ?_ | (refine GQ.a ?_; refine Q.al (fun b1 => ?_)))
        refine ⟨(k + 1, M8), ⟨rfl, rfl, rfl, rfl, rfl, trivial⟩, by repeat (first | exact Ent.refl _ | exact Ent.nil | refine Ent.pick ?_ | refine Ent.nilS ?_ | refine Ent.nilM ?_ | refine Ent.drop ?_), ⟨by dsimp only; omega, hl7.trans hl8⟩, by dsimp only; omega⟩
      · repeat (first | (refine GQ.y ?_; refine Q.y ?_) | refine Q.go ?_ | (refine GQ.g ?_; refine Q.gq ?_) | (refine GQ.s ?_; refine Q.st ?_) | (refine GQ.g ?_; refine Q.gd ?_) | refine Q.ct rfl ?_ | refine Q.cf rfl ?_ | (refine GQ.a ?_; refine Q.al (fun b1 => ?_)))
        refine ⟨(k + 1, M7), ⟨rfl, rfl, rfl, rfl, rfl, trivial⟩, by repeat (first | exact Ent.refl _ | exact Ent.nil | refine Ent.pick ?_ | refine Ent.nilS ?_ | refine Ent.nilM ?_ | refine Ent.drop ?_), ⟨by dsimp only; omega, hl7⟩, by dsimp only; omega⟩
    · have hke : k = xs.length := by omega
      subst hke
      repeat (first | (refine GQ.y ?_; refine Q.y ?_) | refine Q.go ?_ | (refine GQ.g ?_; refine Q.gq ?_) | (refine GQ.s ?_; refine Q.st ?_) | (refine GQ.g ?_; refine Q.gd ?_) | refine Q.ct rfl ?_ | refine Q.cf rfl ?_ | (refine GQ.a ?_; refine Q.al (fun b1 => ?_)))
      exact ⟨(), trivial, by repeat (first | exact Ent.refl _ | exact Ent.nil | refine Ent.pick ?_ | refine Ent.nilS ?_ | refine Ent.nilM ?_ | refine Ent.drop ?_), trivial⟩
  rintro ⟨⟩ -
  repeat (first | (refine GQ.y ?_; refine Q.y ?_) | refine Q.go ?_ | (refine GQ.g ?_; refine Q.gq ?_) | (refine GQ.s ?_; refine Q.st ?_) | (refine GQ.g ?_; refine Q.gd ?_) | refine Q.ct rfl ?_ | refine Q.cf rfl ?_ | (refine GQ.a ?_; refine Q.al (fun b1 => ?_)))
  exact N.r1 (RV.tmp rfl RV.nil) (Ent.refl _) rfl
end Go.Proofs.YtieejgbjgcbbjaaGreat
