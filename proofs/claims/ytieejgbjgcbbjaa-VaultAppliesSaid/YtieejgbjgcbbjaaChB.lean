/- Chains: after, At, copyOf, Put, New, List. No condition. -/
import Derived.Test.YtieejgbjgcbbjaaChA
set_option linter.unusedVariables false
set_option linter.unusedSimpArgs false
namespace Go.Proofs.Ytieejgbjgcbbjaa
open Go Go.SX
attribute [local irreducible] swp opsS thenS blockS retS CallsS St Ent YieldS anyS drawS
def sortedV (vs : VL) : Prop := (vs.map (·.1)).Pairwise (· < ·)
theorem aft_lo : ∀ {vs : VL} {st : Int}, sortedV vs → ∀ i v, i < aftN vs st → vs[i]? = some v → v.1 ≤ st
  | [], _, _, _, _, _, h => by simp at h
  | x :: t, st, hs, i, v, hi, h => by
    unfold sortedV at hs
    rw [List.map_cons, List.pairwise_cons] at hs
    unfold aftN at hi
    by_cases hx : x.1 ≤ st
    · cases i with
      | zero => simp at h; subst h; exact hx
      | succ i =>
        simp [hx] at hi
        exact aft_lo (vs := t) hs.2 i v hi (by simpa using h)
    · have : t.filter (fun v => decide (v.1 ≤ st)) = [] := by
        rw [List.filter_eq_nil_iff]
        intro y hy
        have := hs.1 y.1 (List.mem_map_of_mem hy)
        simp; omega
      simp [hx, this] at hi
theorem aft_hi : ∀ {vs : VL} {st : Int}, sortedV vs → ∀ i v, aftN vs st ≤ i → vs[i]? = some v → st < v.1
  | [], _, _, _, _, _, h => by simp at h
  | x :: t, st, hs, i, v, hi, h => by
    unfold sortedV at hs
    rw [List.map_cons, List.pairwise_cons] at hs
    unfold aftN at hi
    by_cases hx : x.1 ≤ st
    · cases i with
      | zero => simp [hx] at hi
      | succ i =>
        simp [hx] at hi
        exact aft_hi (vs := t) hs.2 i v hi (by simpa using h)
    · cases i with
      | zero => simp at h; subst h; omega
      | succ i =>
        have := hs.1 v.1 (List.mem_map_of_mem (List.mem_of_getElem? (by simpa using h)))
        omega
theorem aft_le (vs : VL) (st : Int) : aftN vs st ≤ vs.length := List.length_filter_le _ _
instance : Enters Try.prog 87 := en87
theorem after1_spec (b2 b3 p b c i : Nat) (st : Int) (ovs : List OV) (o : OV) (L : List HP) (ho : ovs[i]? = some o) :
    CallsS Try.prog 87 ([] ++ [.int .i64 i] ++ [.pointer (some ⟨b2, 0, none⟩), .pointer (some ⟨b3, 0, none⟩)])
      (pt b3 (cl [.int .u64 st] 23) :: pt b2 (cl [.pointer (some ⟨p, 0, none⟩)] 104) :: pt p (cl [.slice (some ⟨b, 0, none⟩) ovs.length c] 142) :: slO 78 2 (some ⟨b, 0, none⟩) ovs.length c (ovs.flatMap OV.cells) :: L)
      (fun v L' => v = .bool (decide (st < o.id)) ∧ L' = pt b3 (cl [.int .u64 st] 23) :: pt b2 (cl [.pointer (some ⟨p, 0, none⟩)] 104) :: pt p (cl [.slice (some ⟨b, 0, none⟩) ovs.length c] 142) :: slO 78 2 (some ⟨b, 0, none⟩) ovs.length c (ovs.flatMap OV.cells) :: L) := by
  refine CallsS.of_body Try.func87 rfl rfl rfl ?_
  have hi : i < ovs.length := (List.getElem?_eq_some_iff.1 ho).1
  have hr := chain_rd (p := p) (b := b) (c := c) (L := L) ho
  repeat (first | (refine GQ.y ?_; refine Q.y ?_) | refine N.tn ?_ | refine N.tr ?_ | refine N.te ?_ | refine N.bn ?_ | refine N.br ?_ | refine N.be ?_ | refine N.bx rfl ?_ | refine swp_seq ?_ | refine swp_region ?_ | refine opsS_nil ?_ | refine swp_ret ?_ | refine swp_skip ?_ | refine swp_exit ?_ | refine swp_block ?_ | refine swp_cond_true rfl ?_ | refine swp_cond_false rfl ?_ | (refine GQ.g ?_; refine Q.gq ?_) | (refine GQ.s ?_; refine Q.st ?_) | (refine GQ.g ?_; refine Q.gd ?_) | refine Q.ct rfl ?_ | refine Q.cf rfl ?_ | (refine GQ.a ?_; refine Q.al (fun b1 => ?_)))
  refine D.start [] [] [0, 1, 2, 3, 4, 5, 6, 7, 8, 9, 10] _ [] rfl (by kernel_rfl) rfl (by kernel_rfl) NoPanic.no (Ent.refl _) ?_
  repeat (first | refine D.yp rfl rfl rfl (by first | exact Y.addN rfl rfl (by omega) | exact Y.addC rfl rfl (by omega) | exact Y.subN rfl rfl (by omega) | exact Y.subC rfl rfl (by omega) | exact Y.iaN rfl rfl (by omega) | exact Y.mulC rfl rfl (by omega) | exact Y.mulD rfl rfl (by omega) | exact Y.quoC rfl rfl (by omega) | exact Y.guard rfl (by first | exact Y.addN rfl rfl (by omega) | exact Y.addC rfl rfl (by omega) | exact Y.subN rfl rfl (by omega) | exact Y.subC rfl rfl (by omega) | exact Y.iaN rfl rfl (by omega) | exact Y.mulC rfl rfl (by omega) | exact Y.mulD rfl rfl (by omega) | exact Y.quoC rfl rfl (by omega))) ?_ | refine D.y rfl rfl rfl (by kernel_rfl) (by first | exact Y.ldI rfl (by omega) | exact Y.guard rfl (Y.ldI rfl (by omega))) ?_ | refine D.y rfl rfl rfl (by kernel_rfl) (by first | exact (Y.ldRj rfl (by first | assumption | exact RdC.sub (by assumption)) rfl) | exact Y.guard rfl (Y.ldRj rfl (by first | assumption | exact RdC.sub (by assumption)) rfl)) ?_ | refine D.endA ?_ | refine Q.dy rfl rfl rfl ?_ | refine Q.dp rfl rfl rfl ?_ | refine D.end_ ?_ | refine Q.endH ?_ | (refine D.e rfl rfl rfl ?_; (first | refine S.gskip1 rfl ?_ | refine S.gskip rfl ?_ | refine S.y (Y.gskipU rfl) ?_); refine opsS_nil ?_; refine N.tn ?_) | refine Q.dT rfl rfl rfl ?_ | refine Q.dF rfl rfl rfl ?_ | (refine D.e rfl rfl rfl ?_; (first | (refine GQ.a ?_; refine Q.al (fun b1 => ?_)) | (refine GQ.s ?_; refine Q.st ?_)); refine opsS_nil ?_; refine N.tn ?_))
  repeat (first | (refine GQ.y ?_; refine Q.y ?_) | refine N.tn ?_ | refine N.tr ?_ | refine N.te ?_ | refine N.bn ?_ | refine N.br ?_ | refine N.be ?_ | refine N.bx rfl ?_ | refine swp_seq ?_ | refine swp_region ?_ | refine opsS_nil ?_ | refine swp_ret ?_ | refine swp_skip ?_ | refine swp_exit ?_ | refine swp_block ?_ | refine swp_cond_true rfl ?_ | refine swp_cond_false rfl ?_ | (refine GQ.g ?_; refine Q.gq ?_) | (refine GQ.s ?_; refine Q.st ?_) | (refine GQ.g ?_; refine Q.gd ?_) | refine Q.ct rfl ?_ | refine Q.cf rfl ?_ | (refine GQ.a ?_; refine Q.al (fun b1 => ?_)))
  exact N.r1 (RV.tmp rfl RV.nil) (Ent.refl _) ⟨rfl, rfl⟩
theorem after_spec' (p : Nat) (a : Option Addr) (c : Nat) (ovs : List OV) (st : Int) (L : List HP) (hs : sortedV (ovs.map OV.abs)) (hn : ovs.length ≤ 1000000) :
    CallsS Try.prog 73 [.pointer (some ⟨p, 0, none⟩), .int .u64 st] (pt p (cl [.slice a ovs.length c] 142) :: slO 78 2 a ovs.length c (ovs.flatMap OV.cells) :: L)
      (fun v L' => v = .int .i64 (aftN (ovs.map OV.abs) st) ∧ L' = pt p (cl [.slice a ovs.length c] 142) :: slO 78 2 a ovs.length c (ovs.flatMap OV.cells) :: L) := by
  refine CallsS.addr a fun ha => ?_
  refine CallsS.of_body Try.func73 rfl rfl rfl ?_
  repeat (first | (refine GQ.y ?_; refine Q.y ?_) | refine N.tn ?_ | refine N.tr ?_ | refine N.te ?_ | refine N.bn ?_ | refine N.br ?_ | refine N.be ?_ | refine N.bx rfl ?_ | refine swp_seq ?_ | refine swp_region ?_ | refine opsS_nil ?_ | refine swp_ret ?_ | refine swp_skip ?_ | refine swp_exit ?_ | refine swp_block ?_ | refine swp_cond_true rfl ?_ | refine swp_cond_false rfl ?_ | (refine GQ.g ?_; refine Q.gq ?_) | (refine GQ.s ?_; refine Q.st ?_) | (refine GQ.g ?_; refine Q.gd ?_) | refine Q.ct rfl ?_ | refine Q.cf rfl ?_ | (refine GQ.a ?_; refine Q.al (fun b1 => ?_)))
  rename_i b2
  refine S.y (Y.mf rfl rfl) ?_
  have hmap : ∀ (i : Nat) (o : OV), ovs[i]? = some o → (ovs.map OV.abs)[i]? = some (o.id, o.vec) := fun i o h => by rw [List.getElem?_map, h]; rfl
  refine S.cr rfl (Search_spec 87 [] [.pointer (some ⟨b2, 0, none⟩), .pointer (some ⟨b1, 0, none⟩)] (fun i => match ovs[i]? with | some o => decide (st < o.id) | none => false) ovs.length (aftN (ovs.map OV.abs) st) _ (by omega) ?_ (by have := aft_le (ovs.map OV.abs) st; simpa using this) ?_ ?_) ?_
  · intro i hi
    obtain ⟨o, ho⟩ := mem_get hi
    rcases ha with ha | ⟨b, rfl⟩
    · omega
    have := after1_spec b2 b1 p b c i st ovs o L ho
    simpa only [ho] using this
  · intro i hi
    cases ho : ovs[i]? with
    | none => rfl
    | some o =>
      have := aft_lo hs i _ hi (hmap i o ho)
      simp only [decide_eq_false_iff_not]
      dsimp only at this; omega
  · intro i hi hlt
    obtain ⟨o, ho⟩ := mem_get hlt
    have := aft_hi hs i _ hi (hmap i o ho)
    rw [ho]
    simpa using this
  rintro _ _ ⟨rfl, rfl⟩
  repeat (first | (refine GQ.y ?_; refine Q.y ?_) | refine N.tn ?_ | refine N.tr ?_ | refine N.te ?_ | refine N.bn ?_ | refine N.br ?_ | refine N.be ?_ | refine N.bx rfl ?_ | refine swp_seq ?_ | refine swp_region ?_ | refine opsS_nil ?_ | refine swp_ret ?_ | refine swp_skip ?_ | refine swp_exit ?_ | refine swp_block ?_ | refine swp_cond_true rfl ?_ | refine swp_cond_false rfl ?_ | (refine GQ.g ?_; refine Q.gq ?_) | (refine GQ.s ?_; refine Q.st ?_) | (refine GQ.g ?_; refine Q.gd ?_) | refine Q.ct rfl ?_ | refine Q.cf rfl ?_ | (refine GQ.a ?_; refine Q.al (fun b1 => ?_)))
  exact N.r1 (RV.tmp rfl RV.nil) (Ent.drop (Ent.drop (Ent.refl _))) ⟨rfl, rfl⟩
/-- What a chain says as of a stamp: no numbers: there is nothing. -/
def atV (vs : VL) (st : Int) : List Int := if aftN vs st = 0 then [] else ((vs[aftN vs st - 1]?).map (·.2)).getD []
set_option maxHeartbeats 1000000 in
theorem ChAt_spec (M : Nat → Option Obj) (p : Nat) (vs : VL) (st : Int) (L : List HP) (hs : sortedV vs) (hn : vs.length ≤ 1000000) (hv : ∀ v ∈ vs, v.2.length ≤ 1000000) :
    CallsS Try.prog 47 [.pointer (some ⟨p, 0, none⟩), .int .u64 st] (chainH M p vs :: roM M :: L)
      (fun v L' => ∃ a c, v = .tuple #[.slice a (atV vs st).length c, .bool (decide (0 < (atV vs st).length))] ∧ L' = slO 21 1 a (atV vs st).length c ((atV vs st).map I32) :: chainH M p vs :: roM M :: L) := by
  refine calls_chain fun a c ovs h1 h2 => ?_
  subst h1
  rw [List.length_map] at hn
  refine CallsS.addr a fun ha => ?_
  refine CallsS.of_body Try.func47 rfl rfl rfl ?_
  repeat (first | (refine GQ.y ?_; refine Q.y ?_) | refine N.tn ?_ | refine N.tr ?_ | refine N.te ?_ | refine N.bn ?_ | refine N.br ?_ | refine N.be ?_ | refine N.bx rfl ?_ | refine swp_seq ?_ | refine swp_region ?_ | refine opsS_nil ?_ | refine swp_ret ?_ | refine swp_skip ?_ | refine swp_exit ?_ | refine swp_block ?_ | refine swp_cond_true rfl ?_ | refine swp_cond_false rfl ?_ | (refine GQ.g ?_; refine Q.gq ?_) | (refine GQ.s ?_; refine Q.st ?_) | (refine GQ.g ?_; refine Q.gd ?_) | refine Q.ct rfl ?_ | refine Q.cf rfl ?_ | (refine GQ.a ?_; refine Q.al (fun b1 => ?_)))
  refine S.cr rfl (after_spec' p a c ovs st (roM M :: L) hs hn) ?_
  rintro _ _ ⟨rfl, rfl⟩
  have hle := aft_le (ovs.map OV.abs) st
  rw [List.length_map] at hle
  unfold atV
  obtain ⟨n, hnn⟩ : ∃ n, n = aftN (ovs.map OV.abs) st := ⟨_, rfl⟩
  rw [← hnn] at hle ⊢
  by_cases h0 : n = 0
  · subst h0
    repeat (first | (refine GQ.y ?_; refine Q.y ?_) | refine N.tn ?_ | refine N.tr ?_ | refine N.te ?_ | refine N.bn ?_ | refine N.br ?_ | refine N.be ?_ | refine N.bx rfl ?_ | refine swp_seq ?_ | refine swp_region ?_ | refine opsS_nil ?_ | refine swp_ret ?_ | refine swp_skip ?_ | refine swp_exit ?_ | refine swp_block ?_ | refine swp_cond_true rfl ?_ | refine swp_cond_false rfl ?_ | (refine GQ.g ?_; refine Q.gq ?_) | (refine GQ.s ?_; refine Q.st ?_) | (refine GQ.g ?_; refine Q.gd ?_) | refine Q.ct rfl ?_ | refine Q.cf rfl ?_ | (refine GQ.a ?_; refine Q.al (fun b1 => ?_)))
    exact N.r2 (RV.tmp rfl (RV.tmp rfl RV.nil)) (Ent.trans slO_nil (Ent.cons (chain_shut h2))) ⟨none, 0, rfl, rfl⟩
  rw [if_neg h0]
  obtain ⟨o, ho⟩ := mem_get (l := ovs) (k := n - 1) (by omega)
  have hat : (((ovs.map OV.abs)[n - 1]?).map (·.2)).getD [] = o.vec := by rw [List.getElem?_map, ho]; rfl
  rw [hat]
  have hmo : o ∈ ovs := List.mem_of_getElem? ho
  rcases ha with ha | ⟨b, rfl⟩
  · omega
  have hr := chain_rd (p := p) (b := b) (c := c) (L := roM M :: L) ho
  have hvl : o.vec.length ≤ 1000000 := hv o.abs (List.mem_map_of_mem hmo)
  by_cases hz : o.vec.length = 0
  · have hz' : o.vec = [] := List.eq_nil_of_length_eq_zero hz
    repeat (first | refine S.y (Y.ldRj rfl (by first | assumption | exact RdC.sub (by assumption)) rfl) ?_ | refine S.y (by first | exact Y.addN rfl rfl (by omega) | exact Y.addC rfl rfl (by omega) | exact Y.subN rfl rfl (by omega) | exact Y.subC rfl rfl (by omega) | exact Y.iaN rfl rfl (by omega) | exact Y.mulC rfl rfl (by omega) | exact Y.mulD rfl rfl (by omega) | exact Y.quoC rfl rfl (by omega) | exact Y.ldI rfl (by omega)) ?_ | refine S.stI rfl rfl (by first | omega | (rw [Array.size_setIfInBounds]; omega)) ?_ | (refine GQ.y ?_; refine Q.y ?_) | refine N.tn ?_ | refine N.tr ?_ | refine N.te ?_ | refine N.bn ?_ | refine N.br ?_ | refine N.be ?_ | refine N.bx rfl ?_ | refine swp_seq ?_ | refine swp_region ?_ | refine opsS_nil ?_ | refine swp_ret ?_ | refine swp_skip ?_ | refine swp_exit ?_ | refine swp_block ?_ | refine swp_cond_true rfl ?_ | refine swp_cond_false rfl ?_ | (refine GQ.g ?_; refine Q.gq ?_) | (refine GQ.s ?_; refine Q.st ?_) | (refine GQ.g ?_; refine Q.gd ?_) | refine Q.ct rfl ?_ | refine Q.cf rfl ?_ | (refine GQ.a ?_; refine Q.al (fun b1 => ?_)))
    rw [hz']
    exact N.r2 (RV.tmp rfl (RV.tmp rfl RV.nil)) (Ent.trans slO_nil (Ent.cons (chain_shut h2))) ⟨none, 0, rfl, rfl⟩
  · repeat (first | refine S.y (Y.ldRj rfl (by first | assumption | exact RdC.sub (by assumption)) rfl) ?_ | refine S.y (by first | exact Y.addN rfl rfl (by omega) | exact Y.addC rfl rfl (by omega) | exact Y.subN rfl rfl (by omega) | exact Y.subC rfl rfl (by omega) | exact Y.iaN rfl rfl (by omega) | exact Y.mulC rfl rfl (by omega) | exact Y.mulD rfl rfl (by omega) | exact Y.quoC rfl rfl (by omega) | exact Y.ldI rfl (by omega)) ?_ | refine S.stI rfl rfl (by first | omega | (rw [Array.size_setIfInBounds]; omega)) ?_ | (refine GQ.y ?_; refine Q.y ?_) | refine N.tn ?_ | refine N.tr ?_ | refine N.te ?_ | refine N.bn ?_ | refine N.br ?_ | refine N.be ?_ | refine N.bx rfl ?_ | refine swp_seq ?_ | refine swp_region ?_ | refine opsS_nil ?_ | refine swp_ret ?_ | refine swp_skip ?_ | refine swp_exit ?_ | refine swp_block ?_ | refine swp_cond_true rfl ?_ | refine swp_cond_false rfl ?_ | (refine GQ.g ?_; refine Q.gq ?_) | (refine GQ.s ?_; refine Q.st ?_) | (refine GQ.g ?_; refine Q.gd ?_) | refine Q.ct rfl ?_ | refine Q.cf rfl ?_ | (refine GQ.a ?_; refine Q.al (fun b1 => ?_)))
    refine S.cr rfl (CloneI_spec o.a o.c o.vec _ ((h2 o hmo).rd) hvl) ?_
    rintro _ _ ⟨a', c', rfl, rfl⟩
    repeat (first | (refine GQ.y ?_; refine Q.y ?_) | refine N.tn ?_ | refine N.tr ?_ | refine N.te ?_ | refine N.bn ?_ | refine N.br ?_ | refine N.be ?_ | refine N.bx rfl ?_ | refine swp_seq ?_ | refine swp_region ?_ | refine opsS_nil ?_ | refine swp_ret ?_ | refine swp_skip ?_ | refine swp_exit ?_ | refine swp_block ?_ | refine swp_cond_true rfl ?_ | refine swp_cond_false rfl ?_ | (refine GQ.g ?_; refine Q.gq ?_) | (refine GQ.s ?_; refine Q.st ?_) | (refine GQ.g ?_; refine Q.gd ?_) | refine Q.ct rfl ?_ | refine Q.cf rfl ?_ | (refine GQ.a ?_; refine Q.al (fun b1 => ?_)))
    exact N.r2 (RV.tmp rfl (RV.tmp rfl RV.nil)) (Ent.cons (chain_shut h2)) ⟨a', c', by rw [decide_eq_true (show 0 < o.vec.length by omega)], rfl⟩
end Go.Proofs.Ytieejgbjgcbbjaa
