/- The ref's vault: Apply, walked. No condition. -/
import Derived.Test.YtieejgbjgcbbjaaGreatVtO
set_option linter.unusedVariables false
set_option linter.unusedSimpArgs false
namespace Go.Proofs.YtieejgbjgcbbjaaGreat
open Go Go.SX
attribute [local irreducible] swp opsS thenS blockS retS CallsS St Ent YieldS anyS drawS
set_option maxHeartbeats 4000000 in
theorem RApply_spec (p : Nat) (st : VS) (n : Nat) (txn s : Int) (L : List HP) (hw : WF st n) (hn : n ≤ 10000) (hs0 : 0 ≤ s) :
    CallsS Tryz.prog 26 [ptrV p, .int .u64 txn, .int .u64 s] (refH p st :: L) (fun r L' => r = .int .i64 (applyE st txn s) ∧ L' = refH p (applyS st txn s) :: L) := by
  refine calls_ref fun M a c es a' c' is hok => ?_
  have hil : is.length ≤ n := by rw [hok.len.1]; exact hw.il
  refine CallsS.of_body Tryz.func26 rfl rfl rfl ?_
  repeat (first | (refine GQ.y ?_; refine Q.y ?_) | refine Q.go ?_ | (refine GQ.g ?_; refine Q.gq ?_) | (refine GQ.s ?_; refine Q.st ?_) | (refine GQ.g ?_; refine Q.gd ?_) | refine Q.ct rfl ?_ | refine Q.cf rfl ?_ | (refine GQ.a ?_; refine Q.al (fun b1 => ?_)))
  refine S.cr rfl (Find_spec p st.dim a es c a' is c' st.mark txn M L hok.sI (by omega)) ?_
  rintro _ _ ⟨⟨k0, x, rfl, hx, hxt⟩ | ⟨rfl, hno⟩, rfl⟩
  · have hlk := hok.hasT hx
    rw [hxt] at hlk
    have hmx : x ∈ is := List.mem_of_getElem? hx
    have hox := hok.oi x hmx
    have hwx := hw.io x.abs (hok.its.mem_iff.1 (List.mem_map_of_mem hmx))
    have hxl : x.ops.length ≤ 16 := by simpa using hwx.1
    have hE : applyE st txn s = if s = 0 ∨ 1099511627776 < s ∨ s ≤ x.after then 1 else if (x.ops.any fun o => decide (s ≤ lastS (chV st.ch o.id))) then 7 else if s ≤ st.mark then 12 else 0 := by unfold applyE; rw [hlk]; dsimp only; rw [List.any_map]; rfl
    have hS : applyE st txn s = 0 → applyS st txn s = { st with ch := applyC s st.ch (x.ops.map OV.abs), its := delL st.its txn } := fun h => by unfold applyS; rw [hlk]; dsimp only; rw [if_pos h]
    have hk0 : k0 < is.length := (List.getElem?_eq_some_iff.1 hx).1
    have hrs : RdS (rP p st.dim a es c a' is c' st.mark :: roM M :: L) a' is.length 3 (is.flatMap IV.cells) := hok.sI.rd
    obtain ⟨b, oo, hia, hr⟩ := RdS.elem (g := IV.cells) (fun _ => rfl) hrs hx rfl
    clear hrs
    subst hia
    by_cases h1 : s = 0 ∨ 1099511627776 < s ∨ s ≤ x.after
    · rw [if_pos h1] at hE
      have hS' := applyS_ne (st := st) (txn := txn) (s := s) (by rw [hE]; decide)
      rw [hE, hS']
      by_cases h1a : s = 0
      · repeat (first | (refine GQ.y ?_; refine Q.y ?_) | refine Q.go ?_ | (refine GQ.g ?_; refine Q.gq ?_) | (refine GQ.s ?_; refine Q.st ?_) | (refine GQ.g ?_; refine Q.gd ?_) | refine Q.ct rfl ?_ | refine Q.cf rfl ?_ | (refine GQ.a ?_; refine Q.al (fun b1 => ?_)))
        exact N.r1 (RV.tmp rfl RV.nil) (ref_shut hok) ⟨rfl, rfl⟩
      by_cases h1b : 1099511627776 < s
      · repeat (first | (refine GQ.y ?_; refine Q.y ?_) | refine Q.go ?_ | (refine GQ.g ?_; refine Q.gq ?_) | (refine GQ.s ?_; refine Q.st ?_) | (refine GQ.g ?_; refine Q.gd ?_) | refine Q.ct rfl ?_ | refine Q.cf rfl ?_ | (refine GQ.a ?_; refine Q.al (fun b1 => ?_)))
        exact N.r1 (RV.tmp rfl RV.nil) (ref_shut hok) ⟨rfl, rfl⟩
      · have h1c : s ≤ x.after := by omega
        repeat (first | refine S.y (Y.ldRj rfl (by first | assumption | exact RdC.sub (by assumption)) rfl) ?_ | refine Q.yn ?_ | refine S.stI rfl rfl (by first | omega | (rw [Array.size_setIfInBounds]; omega)) ?_ | (refine GQ.y ?_; refine Q.y ?_) | refine Q.go ?_ | (refine GQ.g ?_; refine Q.gq ?_) | (refine GQ.s ?_; refine Q.st ?_) | (refine GQ.g ?_; refine Q.gd ?_) | refine Q.ct rfl ?_ | refine Q.cf rfl ?_ | (refine GQ.a ?_; refine Q.al (fun b1 => ?_)))
        exact N.r1 (RV.tmp rfl RV.nil) (ref_shut hok) ⟨rfl, rfl⟩
    rw [if_neg h1] at hE
    repeat (first | refine S.y (Y.ldRj rfl (by first | assumption | exact RdC.sub (by assumption)) rfl) ?_ | refine Q.yn ?_ | refine S.stI rfl rfl (by first | omega | (rw [Array.size_setIfInBounds]; omega)) ?_ | (refine GQ.y ?_; refine Q.y ?_) | refine Q.go ?_ | (refine GQ.g ?_; refine Q.gq ?_) | (refine GQ.s ?_; refine Q.st ?_) | (refine GQ.g ?_; refine Q.gd ?_) | refine Q.ct rfl ?_ | refine Q.cf rfl ?_ | (refine GQ.a ?_; refine Q.al (fun b1 => ?_)))
    have hox' := hok.oc x hmx
    refine swp_cutB (σ := Unit) (fun _ => [(0, ptrV p), (1, .int .u64 txn), (2, .int .u64 s), (8, .slice x.a x.ops.length x.c)]) (fun _ => rP p st.dim a es c (some ⟨b, oo, none⟩) is c' st.mark :: roM M :: L) (fun _ => (x.ops.any fun o => decide (s ≤ lastS (chV st.ch o.id))) = false) ?_ ?_
    · refine swp_loop (σ := Nat) (fun k => [(0, ptrV p), (1, .int .u64 txn), (2, .int .u64 s), (8, .slice x.a x.ops.length x.c), (52, .slice x.a x.ops.length x.c), (53, .int .i64 x.ops.length), (54, .int .i64 k)]) (fun _ => rP p st.dim a es c (some ⟨b, oo, none⟩) is c' st.mark :: roM M :: L)
        (fun k => k ≤ x.ops.length ∧ (x.ops.take k).any (fun o => decide (s ≤ lastS (chV st.ch o.id))) = false) (fun k => x.ops.length - k) 0 ⟨rfl, rfl, rfl, rfl, rfl, rfl, rfl, trivial⟩ (Ent.refl _) ⟨by omega, by simp⟩ ?_
      rintro k ⟨hk, hany⟩
      by_cases hlt : k < x.ops.length
      · obtain ⟨o, ho⟩ := mem_get hlt
        have hmo : o ∈ x.ops := List.mem_of_getElem? ho
        have hrx : RdO (rP p st.dim a es c (some ⟨b, oo, none⟩) is c' st.mark :: roM M :: L) x.a x.ops := hox.rd
        obtain ⟨b4, o4, hia4, hr4⟩ := RdS.elem (g := OV.cells) (fun _ => rfl) hrx.1 ho rfl
        clear hrx
        rw [hia4]
        repeat (first | (refine GQ.y ?_; refine Q.y ?_) | refine Q.go ?_ | (refine GQ.g ?_; refine Q.gq ?_) | (refine GQ.s ?_; refine Q.st ?_) | (refine GQ.g ?_; refine Q.gd ?_) | refine Q.ct rfl ?_ | refine Q.cf rfl ?_ | (refine GQ.a ?_; refine Q.al (fun b1 => ?_)))
        refine opsS_ent (L' := rP p st.dim a es c (some ⟨b, oo, none⟩) is c' st.mark :: roM M :: pt b1 (cl o.cells 64) :: L) (by repeat (first | exact Ent.refl _ | exact Ent.nil | refine Ent.pick ?_ | refine Ent.nilS ?_ | refine Ent.nilM ?_ | refine Ent.drop ?_)) ?_
        refine S.cr rfl (RChain_spec p st.dim a es c (some ⟨b, oo, none⟩) is c' st.mark o.id M _ hok.sE (by have := hok.len.2; have := hw.cl; omega)) ?_
        have hgo : ∀ (ea : Option Addr) (ec : Nat) (ovs : List OV), chV st.ch o.id = ovs.map OV.abs → RdS (rP p st.dim a es c (some ⟨b, oo, none⟩) is c' st.mark :: roM M :: pt b1 (cl o.cells 64) :: L) ea ovs.length 2 (ovs.flatMap OV.cells) → ovs.length ≤ n → True := fun _ _ _ _ _ _ => trivial
        rintro _ _ ⟨⟨e, he, heid, rfl⟩ | ⟨rfl, hnoe⟩, rfl⟩
        · have hch := hok.chain he
          rw [heid] at hch
          have hcv : chV st.ch o.id = e.vs.map OV.abs := by unfold chV; rw [hch]; rfl
          have hevl : e.vs.length ≤ n := by
            have := (hw.co _ (lk_memL hch)).2.1
            simpa using this
          refine S.cr rfl (Rlast_spec e.a e.c e.vs _ (hok.oe e he).1.rd (by omega)) ?_
          rintro _ _ ⟨rfl, rfl⟩
          rw [← hcv]
          by_cases h7 : s ≤ lastS (chV st.ch o.id)
          · rw [show (x.ops.any fun o => decide (s ≤ lastS (chV st.ch o.id))) = true from List.any_eq_true.2 ⟨o, hmo, decide_eq_true h7⟩, if_pos rfl] at hE
            have hS' := applyS_ne (st := st) (txn := txn) (s := s) (by rw [hE]; decide)
            rw [hE, hS']
            repeat (first | (refine GQ.y ?_; refine Q.y ?_) | refine Q.go ?_ | (refine GQ.g ?_; refine Q.gq ?_) | (refine GQ.s ?_; refine Q.st ?_) | (refine GQ.g ?_; refine Q.gd ?_) | refine Q.ct rfl ?_ | refine Q.cf rfl ?_ | (refine GQ.a ?_; refine Q.al (fun b1 => ?_)))
            refine N.r1 (RV.tmp rfl RV.nil) ?_ ⟨rfl, rfl⟩
            refine Ent.trans ?_ (ref_shut hok)
            repeat (first | exact Ent.refl _ | exact Ent.nil | refine Ent.pick ?_ | refine Ent.nilS ?_ | refine Ent.nilM ?_ | refine Ent.drop ?_)
          · repeat (first | (refine GQ.y ?_; refine Q.y ?_) | refine Q.go ?_ | (refine GQ.g ?_; refine Q.gq ?_) | (refine GQ.s ?_; refine Q.st ?_) | (refine GQ.g ?_; refine Q.gd ?_) | refine Q.ct rfl ?_ | refine Q.cf rfl ?_ | (refine GQ.a ?_; refine Q.al (fun b1 => ?_)))
            refine ⟨k + 1, ⟨rfl, rfl, rfl, rfl, rfl, rfl, rfl, trivial⟩, by repeat (first | exact Ent.refl _ | exact Ent.nil | refine Ent.pick ?_ | refine Ent.nilS ?_ | refine Ent.nilM ?_ | refine Ent.drop ?_), ⟨by omega, ?_⟩, by omega⟩
            rw [take_snoc ho, List.any_append, hany, List.any_cons, decide_eq_false h7]; rfl
        · have hch := hok.noC hnoe
          have hcv : chV st.ch o.id = [] := by unfold chV; rw [hch]; rfl
          refine S.cr rfl (Rlast_spec none 0 [] _ ⟨rfl, .inl rfl⟩ (by simp)) ?_
          rintro _ _ ⟨rfl, rfl⟩
          rw [show lastS (List.map OV.abs []) = 0 from rfl]
          repeat (first | (refine GQ.y ?_; refine Q.y ?_) | refine Q.go ?_ | (refine GQ.g ?_; refine Q.gq ?_) | (refine GQ.s ?_; refine Q.st ?_) | (refine GQ.g ?_; refine Q.gd ?_) | refine Q.ct rfl ?_ | refine Q.cf rfl ?_ | (refine GQ.a ?_; refine Q.al (fun b1 => ?_)))
          refine ⟨k + 1, ⟨rfl, rfl, rfl, rfl, rfl, rfl, rfl, trivial⟩, by repeat (first | exact Ent.refl _ | exact Ent.nil | refine Ent.pick ?_ | refine Ent.nilS ?_ | refine Ent.nilM ?_ | refine Ent.drop ?_), ⟨by omega, ?_⟩, by omega⟩
          rw [take_snoc ho, List.any_append, hany, List.any_cons, hcv, decide_eq_false (show ¬ s ≤ lastS [] by show ¬ s ≤ 0; omega)]; rfl
      · have hke : k = x.ops.length := by omega
        subst hke
        rw [List.take_length] at hany
        repeat (first | (refine GQ.y ?_; refine Q.y ?_) | refine Q.go ?_ | (refine GQ.g ?_; refine Q.gq ?_) | (refine GQ.s ?_; refine Q.st ?_) | (refine GQ.g ?_; refine Q.gd ?_) | refine Q.ct rfl ?_ | refine Q.cf rfl ?_ | (refine GQ.a ?_; refine Q.al (fun b1 => ?_)))
        exact ⟨(), ⟨rfl, rfl, rfl, rfl, trivial⟩, Ent.refl _, hany⟩
    intro uu hany
    rw [hany] at hE
    simp only [Bool.false_eq_true, if_false] at hE
    by_cases h12 : s ≤ st.mark
    · rw [if_pos h12] at hE
      have hS' := applyS_ne (st := st) (txn := txn) (s := s) (by rw [hE]; decide)
      rw [hE, hS']
      repeat (first | (refine GQ.y ?_; refine Q.y ?_) | refine Q.go ?_ | (refine GQ.g ?_; refine Q.gq ?_) | (refine GQ.s ?_; refine Q.st ?_) | (refine GQ.g ?_; refine Q.gd ?_) | refine Q.ct rfl ?_ | refine Q.cf rfl ?_ | (refine GQ.a ?_; refine Q.al (fun b1 => ?_)))
      exact N.r1 (RV.tmp rfl RV.nil) (ref_shut hok) ⟨rfl, rfl⟩
    rw [if_neg h12] at hE
    rw [hS hE, hE]
    repeat (first | (refine GQ.y ?_; refine Q.y ?_) | refine Q.go ?_ | (refine GQ.g ?_; refine Q.gq ?_) | (refine GQ.s ?_; refine Q.st ?_) | (refine GQ.g ?_; refine Q.gd ?_) | refine Q.ct rfl ?_ | refine Q.cf rfl ?_ | (refine GQ.a ?_; refine Q.al (fun b1 => ?_)))
    refine swp_cutB (σ := Unit) (fun _ => [(0, ptrV p), (1, .int .u64 txn)]) (fun _ => refH p { st with ch := applyC s st.ch (x.ops.map OV.abs) } :: L) (fun _ => True) ?_ ?_
    · refine swp_loop (σ := Nat × RX) (fun u => [(0, ptrV p), (1, .int .u64 txn), (2, .int .u64 s), (72, .slice x.a x.ops.length x.c), (73, .int .i64 x.ops.length), (74, .int .i64 u.1)]) (fun u => rP p st.dim u.2.a u.2.es u.2.c u.2.a' u.2.is u.2.c' st.mark :: roM u.2.M :: L)
        (fun u => u.1 ≤ x.ops.length ∧ leM M u.2.M ∧ u.2.es.length ≤ 16 * n + u.1 ∧ ROK u.2.M { st with ch := applyC s st.ch ((x.ops.take u.1).map OV.abs) } u.2.a u.2.c u.2.es u.2.a' u.2.c' u.2.is) (fun u => x.ops.length - u.1) (0, ⟨a, c, es, some ⟨b, oo, none⟩, c', is, M⟩) ⟨rfl, rfl, rfl, rfl, rfl, rfl, trivial⟩ (Ent.refl _) ⟨by omega, leM.refl M, by have := hok.len.2; have := hw.cl; dsimp only; omega, hok⟩ ?_
      rintro ⟨k, a1, c1, es1, a1', c1', is1, M1⟩ ⟨hk, hl1, hes1, hok1⟩
      dsimp only at hk hl1 hes1 hok1 ⊢
      by_cases hlt : k < x.ops.length
      · obtain ⟨o, ho⟩ := mem_get hlt
        have hmo : o ∈ x.ops := List.mem_of_getElem? ho
        have hrx : RdO (rP p st.dim a1 es1 c1 a1' is1 c1' st.mark :: roM M1 :: L) x.a x.ops := (hox.mono hl1).rd
        obtain ⟨b4, o4, hia4, hr4⟩ := RdS.elem (g := OV.cells) (fun _ => rfl) hrx.1 ho rfl
        clear hrx
        rw [hia4]
        repeat (first | (refine GQ.y ?_; refine Q.y ?_) | refine Q.go ?_ | (refine GQ.g ?_; refine Q.gq ?_) | (refine GQ.s ?_; refine Q.st ?_) | (refine GQ.g ?_; refine Q.gd ?_) | refine Q.ct rfl ?_ | refine Q.cf rfl ?_ | (refine GQ.a ?_; refine Q.al (fun b1 => ?_)))
        refine Q.dgo [true, false, false] [3, 8] [] [0, 1, 2, 4, 5, 6, 7, 3, 8, 9, 10, 11, 12, 13] ?_
        repeat (first | refine D.endA ?_ | refine Q.dy rfl rfl rfl ?_ | refine Q.dp rfl rfl rfl ?_ | refine D.end_ ?_ | refine Q.endH ?_ | (refine D.e rfl rfl rfl ?_; (first | refine S.gskip1 rfl ?_ | refine S.gskip rfl ?_ | refine S.y (Y.gskipU rfl) ?_); refine opsS_nil ?_; refine N.tn ?_) | refine Q.dT rfl rfl rfl ?_ | refine Q.dF rfl rfl rfl ?_ | (refine D.e rfl rfl rfl ?_; (first | (refine GQ.a ?_; refine Q.al (fun b1 => ?_)) | (refine GQ.s ?_; refine Q.st ?_)); refine opsS_nil ?_; refine N.tn ?_))
        refine D.e rfl rfl rfl ?_
        refine S.cr rfl (RChain_spec p st.dim a1 es1 c1 a1' is1 c1' st.mark o.id M1 L hok1.sE (by omega)) ?_
        rintro w _ ⟨hv, rfl⟩
        have hx : ∃ ea ec ovs, w = .slice ea (List.length ovs) ec ∧ SlM M1 ea ovs.length 2 (ovs.flatMap OV.cells) ∧ okR M1 ovs ∧ ovs.map OV.abs = chV (applyC s st.ch ((x.ops.take k).map OV.abs)) o.id := by
          rcases hv with ⟨e, he, heid, rfl⟩ | ⟨rfl, hnoe⟩
          · have hch := hok1.chain he
            rw [heid] at hch
            exact ⟨e.a, e.c, e.vs, rfl, (hok1.oe e he).1, (hok1.oe e he).2, by unfold chV; dsimp only at hch; rw [hch]; rfl⟩
          · have hch := hok1.noC hnoe
            exact ⟨none, 0, [], rfl, ⟨rfl, .inl rfl⟩, fun o ho => by (cases ho), by unfold chV; dsimp only at hch; rw [hch]; rfl⟩
        clear hv
        obtain ⟨ea, ec, ovs, rfl, hSl, hoR, hov⟩ := hx
        have hcl : chV (applyC s st.ch ((x.ops.take k).map OV.abs)) o.id = chV st.ch o.id := by
          unfold chV
          rw [lk_apply hok.k1]
          intro hm
          obtain ⟨i1, hi1, hi2⟩ := List.mem_iff_getElem.1 hm
          simp only [List.length_map, List.length_take] at hi1
          have hnd := hwx.2.1
          have h2 : (x.abs.2.2.map (·.1))[k]? = some o.id := by simp [ho]
          have h1' : (x.abs.2.2.map (·.1))[i1]? = some o.id := by
            have : ((x.ops.take k).map OV.abs).map (·.1) = (x.abs.2.2.map (·.1)).take k := by simp [List.map_take]
            rw [List.getElem_of_eq this] at hi2
            rw [List.getElem_take] at hi2
            rw [← hi2]; exact List.getElem?_eq_getElem _
          have e := (List.getElem?_inj (by simp; omega) hnd).1 (h1'.trans h2.symm)
          omega
        have hvs : ovs.map OV.abs = chV st.ch o.id := hov.trans hcl
        have hlst : ovs.length ≤ n ∧ sortedV (ovs.map OV.abs) := by
          have hl : ovs.length = (chV st.ch o.id).length := by rw [← hvs]; simp
          rw [hl, hvs]
          unfold chV
          cases hz : lkL st.ch o.id with
          | none => exact ⟨Nat.zero_le _, List.Pairwise.nil⟩
          | some w => exact ⟨(hw.co _ (lk_memL hz)).2.1, (hw.co _ (lk_memL hz)).1⟩
        have hwo := hwx.2.2 o.abs (List.mem_map_of_mem (f := OV.abs) hmo)
        have hlo : o.vec.length ≤ 8 := hwo.1
        have hlast : ¬ s ≤ lastS (chV st.ch o.id) := fun hh => List.any_eq_false.1 hany o hmo (decide_eq_true hh)
        repeat (first | (refine GQ.y ?_; refine Q.y ?_) | refine Q.go ?_ | (refine GQ.g ?_; refine Q.gq ?_) | (refine GQ.s ?_; refine Q.st ?_) | (refine GQ.g ?_; refine Q.gd ?_) | refine Q.ct rfl ?_ | refine Q.cf rfl ?_ | (refine GQ.a ?_; refine Q.al (fun b1 => ?_)))
        repeat (first | refine D.endA ?_ | refine Q.dy rfl rfl rfl ?_ | refine Q.dp rfl rfl rfl ?_ | refine D.end_ ?_ | refine Q.endH ?_ | (refine D.e rfl rfl rfl ?_; (first | refine S.gskip1 rfl ?_ | refine S.gskip rfl ?_ | refine S.y (Y.gskipU rfl) ?_); refine opsS_nil ?_; refine N.tn ?_) | refine Q.dT rfl rfl rfl ?_ | refine Q.dF rfl rfl rfl ?_ | (refine D.e rfl rfl rfl ?_; (first | (refine GQ.a ?_; refine Q.al (fun b1 => ?_)) | (refine GQ.s ?_; refine Q.st ?_)); refine opsS_nil ?_; refine N.tn ?_))
        refine D.e rfl rfl rfl ?_
        have hs1 : 1 ≤ s := by omega
        have hs2 : s ≤ 1099511627776 := by omega
        have hl10 : o.vec.length ≤ 10 := by omega
        have hovn : ovs.length ≤ 1000000 := by omega
        refine S.cr rfl (RPut_spec ea ec ovs ⟨s, o.a, o.c, o.vec⟩ _ hSl.rd ((hox.mono hl1).2 o hmo).rd (hox' o hmo) hl10 hovn hs1 hs2 (fun h => hwo.2 h) (fun u hu => ?_)) ?_
        · have h5 := sorted_last hlst.2 u.abs (List.mem_map_of_mem hu)
          rw [hvs] at h5
          have h6 : u.id ≤ lastS (chV st.ch o.id) := h5
          show u.id < s
          omega
        rintro _ _ ⟨a2, c2, a4, c4, rfl, rfl⟩
        repeat (first | (refine GQ.y ?_; refine Q.y ?_) | refine Q.go ?_ | (refine GQ.g ?_; refine Q.gq ?_) | (refine GQ.s ?_; refine Q.st ?_) | (refine GQ.g ?_; refine Q.gd ?_) | refine Q.ct rfl ?_ | refine Q.cf rfl ?_ | (refine GQ.a ?_; refine Q.al (fun b1 => ?_)))
        repeat (first | refine D.endA ?_ | refine Q.dy rfl rfl rfl ?_ | refine Q.dp rfl rfl rfl ?_ | refine D.end_ ?_ | refine Q.endH ?_ | (refine D.e rfl rfl rfl ?_; (first | refine S.gskip1 rfl ?_ | refine S.gskip rfl ?_ | refine S.y (Y.gskipU rfl) ?_); refine opsS_nil ?_; refine N.tn ?_) | refine Q.dT rfl rfl rfl ?_ | refine Q.dF rfl rfl rfl ?_ | (refine D.e rfl rfl rfl ?_; (first | (refine GQ.a ?_; refine Q.al (fun b1 => ?_)) | (refine GQ.s ?_; refine Q.st ?_)); refine opsS_nil ?_; refine N.tn ?_))
        refine N.tn ?_
        refine swp_abs a4 (fun M2 hl2 hsv => ?_)
        refine swp_abs a2 (fun M3 hl3 hs3 => ?_)
        obtain ⟨nw, hnw⟩ : ∃ nw : EV, nw = ⟨o.id, a2, c2, ovs ++ [⟨s, a4, c4, o.vec⟩]⟩ := ⟨_, rfl⟩
        have hnl : nw.vs.length = ovs.length + 1 := by rw [hnw]; simp
        have hSet := fun A => RSet_spec p st.dim a1 es1 c1 a1' is1 c1' st.mark nw M3 A (hok1.sE.mono (hl2.trans hl3)) (by omega) hok1.cs (by omega)
        have hn1 : nw.id = o.id := by rw [hnw]
        have hn2 : nw.a = a2 := by rw [hnw]
        have hn3 : nw.c = c2 := by rw [hnw]
        rw [hnl, hn1, hn2, hn3] at hSet
        repeat (first | (refine GQ.y ?_; refine Q.y ?_) | refine Q.go ?_ | (refine GQ.g ?_; refine Q.gq ?_) | (refine GQ.s ?_; refine Q.st ?_) | (refine GQ.g ?_; refine Q.gd ?_) | refine Q.ct rfl ?_ | refine Q.cf rfl ?_ | (refine GQ.a ?_; refine Q.al (fun b1 => ?_)))
        refine opsS_ent (L' := rP p st.dim a1 es1 c1 a1' is1 c1' st.mark :: roM M3 :: pt b1 (cl o.cells 64) :: L) (by repeat (first | exact Ent.refl _ | exact Ent.nil | refine Ent.pick ?_ | refine Ent.nilS ?_ | refine Ent.nilM ?_ | refine Ent.drop ?_)) ?_
        refine S.cr rfl (hSet _) ?_
        rintro _ _ ⟨a6, c6, rfl, rfl⟩
        refine opsS_cap a6 fun hc6 => opsS_abs a6 fun M4 hl4 hs4 => ?_
        have hput := hok1.put (hl2.trans (hl3.trans hl4)) (nw := nw) (by rw [hnw]; exact ⟨by dsimp only; rw [len_snoc, flat_snoc]; exact hs3.mono hl4, fun u hu => by
          rcases List.mem_append.1 hu with hu | hu
          · exact (hoR u hu).mono (hl2.trans (hl3.trans hl4))
          · obtain rfl := List.mem_singleton.1 hu
            exact hsv.mono (hl3.trans hl4)⟩) hs4 hc6
        have hch : putL (applyC s st.ch ((x.ops.take k).map OV.abs)) nw.id (nw.vs.map OV.abs) = applyC s st.ch ((x.ops.take (k + 1)).map OV.abs) := by
          rw [take_snoc ho, List.map_append, List.map_cons, List.map_nil, applyC_snoc]
          unfold putC
          rw [hn1, hnw]
          dsimp only
          rw [List.map_append, hov]; rfl
        dsimp only at hput
        rw [hch] at hput
        have hil2 : (insE es1 nw).length ≤ es1.length + 1 := by
          unfold insE
          rw [List.length_append, List.length_cons]
          have e1 := List.length_filter_le (fun e : EV => decide (e.id < nw.id)) es1
          have e2 : (es1.filter fun e => decide (e.id < nw.id)).length + (es1.filter fun e => !decide (e.id < nw.id)).length = es1.length := by
            have := (List.filter_append_perm (fun e : EV => decide (e.id < nw.id)) es1).length_eq
            simpa using this
          have e3 : (es1.filter fun e => decide (nw.id < e.id)).length ≤ (es1.filter fun e => !decide (e.id < nw.id)).length := by
            rw [← List.countP_eq_length_filter, ← List.countP_eq_length_filter]
            exact List.countP_mono_left fun u hu h => by simp at h ⊢; omega
          omega
        repeat (first | (refine GQ.y ?_; refine Q.y ?_) | refine Q.go ?_ | (refine GQ.g ?_; refine Q.gq ?_) | (refine GQ.s ?_; refine Q.st ?_) | (refine GQ.g ?_; refine Q.gd ?_) | refine Q.ct rfl ?_ | refine Q.cf rfl ?_ | (refine GQ.a ?_; refine Q.al (fun b1 => ?_)))
        refine ⟨(k + 1, ⟨a6, c6, insE es1 nw, a1', c1', is1, M4⟩), ⟨rfl, rfl, rfl, rfl, rfl, rfl, trivial⟩, ?_, ⟨by dsimp only; omega, hl1.trans (hl2.trans (hl3.trans hl4)), by dsimp only; omega, hput⟩, by dsimp only; omega⟩
        repeat (first | exact Ent.refl _ | exact Ent.nil | refine Ent.pick ?_ | refine Ent.nilS ?_ | refine Ent.nilM ?_ | refine Ent.drop ?_)
      · have hke : k = x.ops.length := by omega
        subst hke
        rw [List.take_length] at hok1
        repeat (first | (refine GQ.y ?_; refine Q.y ?_) | refine Q.go ?_ | (refine GQ.g ?_; refine Q.gq ?_) | (refine GQ.s ?_; refine Q.st ?_) | (refine GQ.g ?_; refine Q.gd ?_) | refine Q.ct rfl ?_ | refine Q.cf rfl ?_ | (refine GQ.a ?_; refine Q.al (fun b1 => ?_)))
        exact ⟨(), ⟨rfl, rfl, trivial⟩, ref_shut hok1, trivial⟩
    intro uu2 _
    repeat (first | (refine GQ.y ?_; refine Q.y ?_) | refine Q.go ?_ | (refine GQ.g ?_; refine Q.gq ?_) | (refine GQ.s ?_; refine Q.st ?_) | (refine GQ.g ?_; refine Q.gd ?_) | refine Q.ct rfl ?_ | refine Q.cf rfl ?_ | (refine GQ.a ?_; refine Q.al (fun b1 => ?_)))
    refine S.cr rfl (RFree_spec p _ txn _ (by have := hw.il; dsimp only; omega)) ?_
    rintro _ _ ⟨rfl, rfl⟩
    dsimp only
    rw [hlk]
    repeat (first | (refine GQ.y ?_; refine Q.y ?_) | refine Q.go ?_ | (refine GQ.g ?_; refine Q.gq ?_) | (refine GQ.s ?_; refine Q.st ?_) | (refine GQ.g ?_; refine Q.gd ?_) | refine Q.ct rfl ?_ | refine Q.cf rfl ?_ | (refine GQ.a ?_; refine Q.al (fun b1 => ?_)))
    exact N.r1 (RV.tmp rfl RV.nil) (Ent.refl _) ⟨rfl, rfl⟩
  · have hlk := hok.noT hno
    have hE : applyE st txn s = if s = 0 ∨ 1099511627776 < s then 1 else 6 := by unfold applyE; rw [hlk]
    have hS : applyS st txn s = st := by unfold applyS; rw [hlk]
    rw [hE, hS]
    by_cases h1 : s = 0 ∨ 1099511627776 < s
    · rw [if_pos h1]
      by_cases h1a : s = 0
      · repeat (first | (refine GQ.y ?_; refine Q.y ?_) | refine Q.go ?_ | (refine GQ.g ?_; refine Q.gq ?_) | (refine GQ.s ?_; refine Q.st ?_) | (refine GQ.g ?_; refine Q.gd ?_) | refine Q.ct rfl ?_ | refine Q.cf rfl ?_ | (refine GQ.a ?_; refine Q.al (fun b1 => ?_)))
        exact N.r1 (RV.tmp rfl RV.nil) (ref_shut hok) ⟨rfl, rfl⟩
      · repeat (first | (refine GQ.y ?_; refine Q.y ?_) | refine Q.go ?_ | (refine GQ.g ?_; refine Q.gq ?_) | (refine GQ.s ?_; refine Q.st ?_) | (refine GQ.g ?_; refine Q.gd ?_) | refine Q.ct rfl ?_ | refine Q.cf rfl ?_ | (refine GQ.a ?_; refine Q.al (fun b1 => ?_)))
        exact N.r1 (RV.tmp rfl RV.nil) (ref_shut hok) ⟨rfl, rfl⟩
    · rw [if_neg h1]
      repeat (first | (refine GQ.y ?_; refine Q.y ?_) | refine Q.go ?_ | (refine GQ.g ?_; refine Q.gq ?_) | (refine GQ.s ?_; refine Q.st ?_) | (refine GQ.g ?_; refine Q.gd ?_) | refine Q.ct rfl ?_ | refine Q.cf rfl ?_ | (refine GQ.a ?_; refine Q.al (fun b1 => ?_)))
      exact N.r1 (RV.tmp rfl RV.nil) (ref_shut hok) ⟨rfl, rfl⟩
end Go.Proofs.YtieejgbjgcbbjaaGreat
