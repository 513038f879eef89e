/- The vault: Get, Last. No condition. -/
import Derived.Test.YtieejgbjgcbbjaaVtE
set_option linter.unusedVariables false
set_option linter.unusedSimpArgs false
namespace Go.Proofs.Ytieejgbjgcbbjaa
open Go Go.SX
attribute [local irreducible] swp opsS thenS blockS retS CallsS St Ent YieldS anyS drawS
/-- What Get answers. -/
def getV (st : VS) (id s : Int) : List Int := if openE st s [id] ≠ 0 then [] else atV (chV st.ch id) s
set_option maxHeartbeats 1000000 in
theorem Get_spec (v : Nat) (st : VS) (n : Nat) (id s : Int) (L : List HP) (hw : WF st n) (hn : n ≤ 10000) :
    CallsS Try.prog 20 [ptrV v, .int .u64 id, .int .u64 s] (vaultH v st :: L)
      (fun r L' => ∃ a c, r = .tuple #[.slice a (getV st id s).length c, .bool (decide (0 < (getV st id s).length)), .int .i64 (openE st s [id])] ∧ L' = slO 21 1 a (getV st id s).length c ((getV st id s).map I32) :: vaultH v st :: L) := by
  refine CallsS.of_body Try.func20 rfl rfl rfl ?_
  repeat (first | (refine GQ.y ?_; refine Q.y ?_) | refine N.tn ?_ | refine N.tr ?_ | refine N.te ?_ | refine N.bn ?_ | refine N.br ?_ | refine N.be ?_ | refine N.bx rfl ?_ | refine swp_seq ?_ | refine swp_region ?_ | refine opsS_nil ?_ | refine swp_ret ?_ | refine swp_skip ?_ | refine swp_exit ?_ | refine swp_block ?_ | refine swp_cond_true rfl ?_ | refine swp_cond_false rfl ?_ | (refine GQ.g ?_; refine Q.gq ?_) | (refine GQ.s ?_; refine Q.st ?_) | (refine GQ.g ?_; refine Q.gd ?_) | refine Q.ct rfl ?_ | refine Q.cf rfl ?_ | (refine GQ.a ?_; refine Q.al (fun b1 => ?_)))
  refine S.cv v rfl (open_spec v st s (some ⟨b1, 0, none⟩) 1 [id] _ hw.ops ?_ (by simp)) ?_
  · exact ⟨rfl, .inr ⟨b1, 0, rfl, RdC.row⟩⟩
  rintro _ _ ⟨rfl, rfl⟩
  unfold getV
  by_cases hE : openE st s [id] ≠ 0
  · rw [if_pos hE]
    repeat (first | (refine GQ.y ?_; refine Q.y ?_) | refine N.tn ?_ | refine N.tr ?_ | refine N.te ?_ | refine N.bn ?_ | refine N.br ?_ | refine N.be ?_ | refine N.bx rfl ?_ | refine swp_seq ?_ | refine swp_region ?_ | refine opsS_nil ?_ | refine swp_ret ?_ | refine swp_skip ?_ | refine swp_exit ?_ | refine swp_block ?_ | refine swp_cond_true rfl ?_ | refine swp_cond_false rfl ?_ | (refine GQ.g ?_; refine Q.gq ?_) | (refine GQ.s ?_; refine Q.st ?_) | (refine GQ.g ?_; refine Q.gd ?_) | refine Q.ct rfl ?_ | refine Q.cf rfl ?_ | (refine GQ.a ?_; refine Q.al (fun b1 => ?_)))
    refine N.r3 (RV.tmp rfl (RV.tmp rfl (RV.tmp rfl RV.nil))) ?_ ⟨none, 0, rfl, rfl⟩
    refine Ent.trans ?_ slO_nil
    repeat (first | exact Ent.refl _ | exact Ent.nil | refine Ent.pick ?_ | refine Ent.nilS ?_ | refine Ent.nilM ?_ | refine Ent.drop ?_)
  · rw [if_neg hE]
    have hE0 : openE st s [id] = 0 := by omega
    rw [hE0]
    repeat (first | (refine GQ.y ?_; refine Q.y ?_) | refine N.tn ?_ | refine N.tr ?_ | refine N.te ?_ | refine N.bn ?_ | refine N.br ?_ | refine N.be ?_ | refine N.bx rfl ?_ | refine swp_seq ?_ | refine swp_region ?_ | refine opsS_nil ?_ | refine swp_ret ?_ | refine swp_skip ?_ | refine swp_exit ?_ | refine swp_block ?_ | refine swp_cond_true rfl ?_ | refine swp_cond_false rfl ?_ | (refine GQ.g ?_; refine Q.gq ?_) | (refine GQ.s ?_; refine Q.st ?_) | (refine GQ.g ?_; refine Q.gd ?_) | refine Q.ct rfl ?_ | refine Q.cf rfl ?_ | (refine GQ.a ?_; refine Q.al (fun b1 => ?_)))
    refine opsS_vault v (fun mc mi M cs is hok => ?_)
    have hkk : keysOK (cs.map fun c => (c.1, c.2.2)) := by rw [hok.ch]; exact hok.k1
    repeat (first | (refine GQ.y ?_; refine Q.y ?_) | refine N.tn ?_ | refine N.tr ?_ | refine N.te ?_ | refine N.bn ?_ | refine N.br ?_ | refine N.be ?_ | refine N.bx rfl ?_ | refine swp_seq ?_ | refine swp_region ?_ | refine opsS_nil ?_ | refine swp_ret ?_ | refine swp_skip ?_ | refine swp_exit ?_ | refine swp_block ?_ | refine swp_cond_true rfl ?_ | refine swp_cond_false rfl ?_ | (refine GQ.g ?_; refine Q.gq ?_) | (refine GQ.s ?_; refine Q.st ?_) | (refine GQ.g ?_; refine Q.gd ?_) | refine Q.ct rfl ?_ | refine Q.cf rfl ?_ | (refine GQ.a ?_; refine Q.al (fun b1 => ?_)))
    refine S.y (Y.lk false rfl rfl (fun w => Try.zeroValue104 w)) ?_
    rcases cr_case cs hkk id with ⟨p, q, b2, vs, e0, e1, e2, e3, e4⟩ | ⟨e1, e2, e3⟩
    · have hcv : chV st.ch id = vs := by unfold chV; rw [← hok.ch, e2]; rfl
      have hmc : (id, b2, vs) ∈ cs := by rw [e0]; simp
      obtain ⟨R, hR⟩ := chs_mem (M := M) hmc
      have hco := hw.co (id, vs) (by rw [← hok.ch]; exact List.mem_map_of_mem (f := fun c : CR => (c.1, c.2.2)) hmc)
      rw [e1, hcv]
      repeat (first | (refine GQ.y ?_; refine Q.y ?_) | refine N.tn ?_ | refine N.tr ?_ | refine N.te ?_ | refine N.bn ?_ | refine N.br ?_ | refine N.be ?_ | refine N.bx rfl ?_ | refine swp_seq ?_ | refine swp_region ?_ | refine opsS_nil ?_ | refine swp_ret ?_ | refine swp_skip ?_ | refine swp_exit ?_ | refine swp_block ?_ | refine swp_cond_true rfl ?_ | refine swp_cond_false rfl ?_ | (refine GQ.g ?_; refine Q.gq ?_) | (refine GQ.s ?_; refine Q.st ?_) | (refine GQ.g ?_; refine Q.gd ?_) | refine Q.ct rfl ?_ | refine Q.cf rfl ?_ | (refine GQ.a ?_; refine Q.al (fun b1 => ?_)))
      dsimp only
      refine opsS_ent (L' := chainH M b2 vs :: roM M :: R :: pt b1 (cl [.int .u64 id] 23) :: vP v mc mi st.dim st.mark :: vC mc cs :: vI mi is :: L) ?_ ?_
      · refine Ent.trans (?_ : Ent _ (chsH M cs :: roM M :: pt b1 (cl [.int .u64 id] 23) :: vP v mc mi st.dim st.mark :: vC mc cs :: vI mi is :: L)) ?_
        · repeat (first | exact Ent.refl _ | exact Ent.nil | refine Ent.pick ?_ | refine Ent.nilS ?_ | refine Ent.nilM ?_ | refine Ent.drop ?_)
        exact (hR _).1.trans (Ent.cons (Ent.perm (.swap _ _ _)))
      refine S.cr rfl (ChAt_spec M b2 vs s _ hco.1 (by have := hco.2.1; dsimp only at this; omega) (fun w hw => by have := hco.2.2 w hw; omega)) ?_
      rintro _ _ ⟨a5, c5, rfl, rfl⟩
      repeat (first | (refine GQ.y ?_; refine Q.y ?_) | refine N.tn ?_ | refine N.tr ?_ | refine N.te ?_ | refine N.bn ?_ | refine N.br ?_ | refine N.be ?_ | refine N.bx rfl ?_ | refine swp_seq ?_ | refine swp_region ?_ | refine opsS_nil ?_ | refine swp_ret ?_ | refine swp_skip ?_ | refine swp_exit ?_ | refine swp_block ?_ | refine swp_cond_true rfl ?_ | refine swp_cond_false rfl ?_ | (refine GQ.g ?_; refine Q.gq ?_) | (refine GQ.s ?_; refine Q.st ?_) | (refine GQ.g ?_; refine Q.gd ?_) | refine Q.ct rfl ?_ | refine Q.cf rfl ?_ | (refine GQ.a ?_; refine Q.al (fun b1 => ?_)))
      refine N.r3 (RV.tmp rfl (RV.tmp rfl (RV.tmp rfl RV.nil))) ?_ ⟨a5, c5, rfl, rfl⟩
      refine Ent.cons ?_
      refine Ent.trans ?_ (vault_shut (mc := mc) (mi := mi) hok)
      refine Ent.pick (Ent.pick (Ent.pick ?_))
      refine Ent.trans ?_ (hR _).2
      repeat (first | exact Ent.refl _ | exact Ent.nil | refine Ent.pick ?_ | refine Ent.nilS ?_ | refine Ent.nilM ?_ | refine Ent.drop ?_)
    · have hcv : chV st.ch id = [] := by unfold chV; rw [← hok.ch, e2]; rfl
      rw [e1, hcv]
      repeat (first | (refine GQ.y ?_; refine Q.y ?_) | refine N.tn ?_ | refine N.tr ?_ | refine N.te ?_ | refine N.bn ?_ | refine N.br ?_ | refine N.be ?_ | refine N.bx rfl ?_ | refine swp_seq ?_ | refine swp_region ?_ | refine opsS_nil ?_ | refine swp_ret ?_ | refine swp_skip ?_ | refine swp_exit ?_ | refine swp_block ?_ | refine swp_cond_true rfl ?_ | refine swp_cond_false rfl ?_ | (refine GQ.g ?_; refine Q.gq ?_) | (refine GQ.s ?_; refine Q.st ?_) | (refine GQ.g ?_; refine Q.gd ?_) | refine Q.ct rfl ?_ | refine Q.cf rfl ?_ | (refine GQ.a ?_; refine Q.al (fun b1 => ?_)))
      refine S.cr rfl (AtN_spec s _) ?_
      rintro _ _ ⟨rfl, rfl⟩
      repeat (first | (refine GQ.y ?_; refine Q.y ?_) | refine N.tn ?_ | refine N.tr ?_ | refine N.te ?_ | refine N.bn ?_ | refine N.br ?_ | refine N.be ?_ | refine N.bx rfl ?_ | refine swp_seq ?_ | refine swp_region ?_ | refine opsS_nil ?_ | refine swp_ret ?_ | refine swp_skip ?_ | refine swp_exit ?_ | refine swp_block ?_ | refine swp_cond_true rfl ?_ | refine swp_cond_false rfl ?_ | (refine GQ.g ?_; refine Q.gq ?_) | (refine GQ.s ?_; refine Q.st ?_) | (refine GQ.g ?_; refine Q.gd ?_) | refine Q.ct rfl ?_ | refine Q.cf rfl ?_ | (refine GQ.a ?_; refine Q.al (fun b1 => ?_)))
      have hat : atV [] s = [] := by unfold atV aftN; simp
      rw [hat]
      refine N.r3 (RV.tmp rfl (RV.tmp rfl (RV.tmp rfl RV.nil))) ?_ ⟨none, 0, rfl, rfl⟩
      refine Ent.trans ?_ slO_nil
      refine Ent.trans ?_ (vault_shut (mc := mc) (mi := mi) hok)
      repeat (first | exact Ent.refl _ | exact Ent.nil | refine Ent.pick ?_ | refine Ent.nilS ?_ | refine Ent.nilM ?_ | refine Ent.drop ?_)
set_option maxHeartbeats 1000000 in
theorem Last_spec (v : Nat) (st : VS) (n : Nat) (L : List HP) (hw : WF st n) (hn : n ≤ 10000) :
    CallsS Try.prog 22 [ptrV v] (vaultH v st :: L)
      (fun r L' => (∃ m : Int, r = .int .u64 m ∧ (∀ c ∈ st.ch, lastS c.2 ≤ m) ∧ (m = 0 ∨ ∃ c ∈ st.ch, lastS c.2 = m)) ∧ L' = vaultH v st :: L) := by
  refine calls_vault fun mc mi M cs is hok => ?_
  refine CallsS.of_body Try.func22 rfl rfl rfl ?_
  repeat (first | (refine GQ.y ?_; refine Q.y ?_) | refine N.tn ?_ | refine N.tr ?_ | refine N.te ?_ | refine N.bn ?_ | refine N.br ?_ | refine N.be ?_ | refine N.bx rfl ?_ | refine swp_seq ?_ | refine swp_region ?_ | refine opsS_nil ?_ | refine swp_ret ?_ | refine swp_skip ?_ | refine swp_exit ?_ | refine swp_block ?_ | refine swp_cond_true rfl ?_ | refine swp_cond_false rfl ?_ | (refine GQ.g ?_; refine Q.gq ?_) | (refine GQ.s ?_; refine Q.st ?_) | (refine GQ.g ?_; refine Q.gd ?_) | refine Q.ct rfl ?_ | refine Q.cf rfl ?_ | (refine GQ.a ?_; refine Q.al (fun b1 => ?_)))
  refine S.rg rfl (fun r => ?_)
  repeat (first | (refine GQ.y ?_; refine Q.y ?_) | refine N.tn ?_ | refine N.tr ?_ | refine N.te ?_ | refine N.bn ?_ | refine N.br ?_ | refine N.be ?_ | refine N.bx rfl ?_ | refine swp_seq ?_ | refine swp_region ?_ | refine opsS_nil ?_ | refine swp_ret ?_ | refine swp_skip ?_ | refine swp_exit ?_ | refine swp_block ?_ | refine swp_cond_true rfl ?_ | refine swp_cond_false rfl ?_ | (refine GQ.g ?_; refine Q.gq ?_) | (refine GQ.s ?_; refine Q.st ?_) | (refine GQ.g ?_; refine Q.gd ?_) | refine Q.ct rfl ?_ | refine Q.cf rfl ?_ | (refine GQ.a ?_; refine Q.al (fun b1 => ?_)))
  refine swp_cutB (σ := Int) (fun m => [(3, .int .u64 m)]) (fun _ => vP v mc mi st.dim st.mark :: vC mc cs :: vI mi is :: chsH M cs :: roM M :: L) (fun m => (∀ c ∈ cs, lastS c.2.2 ≤ m) ∧ (m = 0 ∨ ∃ c ∈ cs, lastS c.2.2 = m)) ?_ ?_
  · refine swp_loop (σ := List Nat × Int) (fun u => [(12, .pointer (some ⟨r, 0, none⟩)), (3, .int .u64 u.2)])
      (fun u => vP v mc mi st.dim st.mark :: itO U64 ptrV mc r (cs.map fun c => (c.1, c.2.1)) u.1 :: vI mi is :: chsH M cs :: roM M :: L)
      (fun u => u.1.Nodup ∧ (∀ i ∈ u.1, i < cs.length) ∧ (∀ i ∈ u.1, ∀ x, cs[i]? = some x → lastS x.2.2 ≤ u.2) ∧ (u.2 = 0 ∨ ∃ c ∈ cs, lastS c.2.2 = u.2)) (fun u => cs.length - u.1.length) ([], 0) ⟨rfl, rfl, trivial⟩ (by repeat (first | exact Ent.refl _ | exact Ent.nil | refine Ent.pick ?_ | refine Ent.nilS ?_ | refine Ent.nilM ?_ | refine Ent.drop ?_)) ⟨by simp, by simp, by simp, .inl rfl⟩ ?_
    rintro ⟨vis, m⟩ ⟨hv1, hv2, hv3, hv4⟩
    dsimp only at hv1 hv2 hv3 hv4 ⊢
    repeat (first | (refine GQ.y ?_; refine Q.y ?_) | refine N.tn ?_ | refine N.tr ?_ | refine N.te ?_ | refine N.bn ?_ | refine N.br ?_ | refine N.be ?_ | refine N.bx rfl ?_ | refine swp_seq ?_ | refine swp_region ?_ | refine opsS_nil ?_ | refine swp_ret ?_ | refine swp_skip ?_ | refine swp_exit ?_ | refine swp_block ?_ | refine swp_cond_true rfl ?_ | refine swp_cond_false rfl ?_ | (refine GQ.g ?_; refine Q.gq ?_) | (refine GQ.s ?_; refine Q.st ?_) | (refine GQ.g ?_; refine Q.gd ?_) | refine Q.ct rfl ?_ | refine Q.cf rfl ?_ | (refine GQ.a ?_; refine Q.al (fun b1 => ?_)))
    refine S.nx rfl (fun hend => ?_) (fun i p hp hi => ?_)
    · rw [List.length_map] at hend
      repeat (first | (refine GQ.y ?_; refine Q.y ?_) | refine N.tn ?_ | refine N.tr ?_ | refine N.te ?_ | refine N.bn ?_ | refine N.br ?_ | refine N.be ?_ | refine N.bx rfl ?_ | refine swp_seq ?_ | refine swp_region ?_ | refine opsS_nil ?_ | refine swp_ret ?_ | refine swp_skip ?_ | refine swp_exit ?_ | refine swp_block ?_ | refine swp_cond_true rfl ?_ | refine swp_cond_false rfl ?_ | (refine GQ.g ?_; refine Q.gq ?_) | (refine GQ.s ?_; refine Q.st ?_) | (refine GQ.g ?_; refine Q.gd ?_) | refine Q.ct rfl ?_ | refine Q.cf rfl ?_ | (refine GQ.a ?_; refine Q.al (fun b1 => ?_)))
      refine ⟨m, ⟨rfl, trivial⟩, Ent.cons itO_map, fun c hc => ?_, hv4⟩
      obtain ⟨i, hi⟩ := List.mem_iff_getElem?.1 hc
      exact hv3 i (hend i (List.getElem?_eq_some_iff.1 hi).1) c hi
    have hx : ∃ x, cs[i]? = some x ∧ p = (x.1, x.2.1) := by
      rw [List.getElem?_map] at hp
      cases hx : cs[i]? with
      | none => rw [hx] at hp; cases hp
      | some x => rw [hx] at hp; exact ⟨x, rfl, (Option.some.inj hp).symm⟩
    obtain ⟨⟨id, b2, vs⟩, hx, rfl⟩ := hx
    have hmc : (id, b2, vs) ∈ cs := List.mem_of_getElem? hx
    obtain ⟨m1, m2, m3⟩ := vis_more hv1 hv2 (List.getElem?_eq_some_iff.1 hx).1 hi
    obtain ⟨R, hR⟩ := chs_mem (M := M) hmc
    have hco := hw.co (id, vs) (by rw [← hok.ch]; exact List.mem_map_of_mem (f := fun c : CR => (c.1, c.2.2)) hmc)
    repeat (first | (refine GQ.y ?_; refine Q.y ?_) | refine N.tn ?_ | refine N.tr ?_ | refine N.te ?_ | refine N.bn ?_ | refine N.br ?_ | refine N.be ?_ | refine N.bx rfl ?_ | refine swp_seq ?_ | refine swp_region ?_ | refine opsS_nil ?_ | refine swp_ret ?_ | refine swp_skip ?_ | refine swp_exit ?_ | refine swp_block ?_ | refine swp_cond_true rfl ?_ | refine swp_cond_false rfl ?_ | (refine GQ.g ?_; refine Q.gq ?_) | (refine GQ.s ?_; refine Q.st ?_) | (refine GQ.a ?_; refine Q.al (fun b1 => ?_)))
    refine S.y (Y.en rfl hp) ?_
    repeat (first | (refine GQ.y ?_; refine Q.y ?_) | refine N.tn ?_ | refine N.tr ?_ | refine N.te ?_ | refine N.bn ?_ | refine N.br ?_ | refine N.be ?_ | refine N.bx rfl ?_ | refine swp_seq ?_ | refine swp_region ?_ | refine opsS_nil ?_ | refine swp_ret ?_ | refine swp_skip ?_ | refine swp_exit ?_ | refine swp_block ?_ | refine swp_cond_true rfl ?_ | refine swp_cond_false rfl ?_ | (refine GQ.g ?_; refine Q.gq ?_) | (refine GQ.s ?_; refine Q.st ?_) | (refine GQ.g ?_; refine Q.gd ?_) | refine Q.ct rfl ?_ | refine Q.cf rfl ?_ | (refine GQ.a ?_; refine Q.al (fun b1 => ?_)))
    refine opsS_ent (L' := chainH M b2 vs :: R :: vP v mc mi st.dim st.mark :: itO U64 ptrV mc r (cs.map fun c => (c.1, c.2.1)) (vis ++ [i]) :: vI mi is :: roM M :: L) ?_ ?_
    · refine Ent.trans (?_ : Ent _ (chsH M cs :: vP v mc mi st.dim st.mark :: itO U64 ptrV mc r (cs.map fun c => (c.1, c.2.1)) (vis ++ [i]) :: vI mi is :: roM M :: L)) ?_
      · repeat (first | exact Ent.refl _ | exact Ent.nil | refine Ent.pick ?_ | refine Ent.nilS ?_ | refine Ent.nilM ?_ | refine Ent.drop ?_)
      exact (hR _).1
    refine S.cr rfl (ChLast_spec M b2 vs _ (by have := hco.2.1; dsimp only at this; omega)) ?_
    rintro _ _ ⟨rfl, rfl⟩
    repeat (first | (refine GQ.y ?_; refine Q.y ?_) | refine N.tn ?_ | refine N.tr ?_ | refine N.te ?_ | refine N.bn ?_ | refine N.br ?_ | refine N.be ?_ | refine N.bx rfl ?_ | refine swp_seq ?_ | refine swp_region ?_ | refine opsS_nil ?_ | refine swp_ret ?_ | refine swp_skip ?_ | refine swp_exit ?_ | refine swp_block ?_ | refine swp_cond_true rfl ?_ | refine swp_cond_false rfl ?_ | (refine GQ.g ?_; refine Q.gq ?_) | (refine GQ.s ?_; refine Q.st ?_) | (refine GQ.g ?_; refine Q.gd ?_) | refine Q.ct rfl ?_ | refine Q.cf rfl ?_ | (refine GQ.a ?_; refine Q.al (fun b1 => ?_)))
    refine ⟨(vis ++ [i], max m (lastS vs)), ⟨rfl, rfl, trivial⟩, ?_, ⟨m1, m2, fun j hj y hy => ?_, ?_⟩, by simp; omega⟩
    · dsimp only
      refine Ent.trans ((hR _).2) ?_
      repeat (first | exact Ent.refl _ | exact Ent.nil | refine Ent.pick ?_ | refine Ent.nilS ?_ | refine Ent.nilM ?_ | refine Ent.drop ?_)
    · dsimp only
      rcases List.mem_append.1 hj with hj | hj
      · have := hv3 j hj y hy; omega
      · obtain rfl := List.mem_singleton.1 hj
        rw [hx] at hy
        obtain rfl := Option.some.inj hy
        dsimp only; omega
    · dsimp only
      by_cases hm : lastS vs ≤ m
      · rw [show max m (lastS vs) = m by omega]; exact hv4
      · rw [show max m (lastS vs) = lastS vs by omega]; exact .inr ⟨_, hmc, rfl⟩
  rintro m ⟨h1, h2⟩
  repeat (first | (refine GQ.y ?_; refine Q.y ?_) | refine N.tn ?_ | refine N.tr ?_ | refine N.te ?_ | refine N.bn ?_ | refine N.br ?_ | refine N.be ?_ | refine N.bx rfl ?_ | refine swp_seq ?_ | refine swp_region ?_ | refine opsS_nil ?_ | refine swp_ret ?_ | refine swp_skip ?_ | refine swp_exit ?_ | refine swp_block ?_ | refine swp_cond_true rfl ?_ | refine swp_cond_false rfl ?_ | (refine GQ.g ?_; refine Q.gq ?_) | (refine GQ.s ?_; refine Q.st ?_) | (refine GQ.g ?_; refine Q.gd ?_) | refine Q.ct rfl ?_ | refine Q.cf rfl ?_ | (refine GQ.a ?_; refine Q.al (fun b1 => ?_)))
  refine N.r1 (RV.tmp rfl RV.nil) (vault_shut hok) ⟨⟨m, rfl, fun c hc => ?_, ?_⟩, rfl⟩
  · rw [← hok.ch] at hc
    obtain ⟨u, hu, rfl⟩ := List.mem_map.1 hc
    exact h1 u hu
  · rcases h2 with h2 | ⟨c, hc, h2⟩
    · exact .inl h2
    · exact .inr ⟨(c.1, c.2.2), by rw [← hok.ch]; exact List.mem_map_of_mem (f := fun c : CR => (c.1, c.2.2)) hc, h2⟩
end Go.Proofs.Ytieejgbjgcbbjaa
