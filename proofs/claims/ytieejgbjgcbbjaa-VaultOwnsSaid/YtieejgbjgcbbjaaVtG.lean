/- The vault: ids, Dump (its length), Intents (its length), Get, Last. No condition. -/
import Derived.Test.YtieejgbjgcbbjaaVtD
import Derived.Test.YtieejgbjgcbbjaaKeys
import Derived.Test.YtieejgbjgcbbjaaSrtK
set_option linter.unusedVariables false
set_option linter.unusedSimpArgs false
namespace Go.Proofs.Ytieejgbjgcbbjaa
open Go Go.SX
attribute [local irreducible] swp opsS thenS blockS retS CallsS St Ent YieldS anyS drawS
theorem chs_mem {M : Nat → Option Obj} {cs : List CR} {x : CR} (h : x ∈ cs) : ∃ R : HP, ∀ L, Ent (chsH M cs :: L) (chainH M x.2.1 x.2.2 :: R :: L) ∧ Ent (chainH M x.2.1 x.2.2 :: R :: L) (chsH M cs :: L) := by
  obtain ⟨p, q, rfl⟩ := List.append_of_mem h
  exact ⟨_, fun L => ⟨chs_out, chs_in⟩⟩
theorem Ids_spec (v mc mi : Nat) (dim mark : Int) (cs : List CR) (A : List HP) (hn : cs.length ≤ 17592186044416) :
    CallsS Try.prog 44 [ptrV v] (vP v mc mi dim mark :: vC mc cs :: A) (fun r L' => ∃ a c, r = .slice a cs.length c ∧ L' = slO 23 1 a cs.length c ((sortL (cs.map (·.1))).map U64) :: vP v mc mi dim mark :: vC mc cs :: A) := by
  refine CallsS.of_body Try.func44 rfl rfl rfl ?_
  repeat (first | (refine GQ.y ?_; refine Q.y ?_) | refine Q.go ?_ | (refine GQ.g ?_; refine Q.gq ?_) | (refine GQ.s ?_; refine Q.st ?_) | (refine GQ.g ?_; refine Q.gd ?_) | refine Q.ct rfl ?_ | refine Q.cf rfl ?_ | (refine GQ.a ?_; refine Q.al (fun b1 => ?_)))
  refine S.cr rfl (MapKeysC_spec (some mc) _) ?_
  rintro _ _ ⟨bm, rfl, rfl⟩
  repeat (first | (refine GQ.y ?_; refine Q.y ?_) | refine Q.go ?_ | (refine GQ.g ?_; refine Q.gq ?_) | (refine GQ.s ?_; refine Q.st ?_) | (refine GQ.g ?_; refine Q.gd ?_) | refine Q.ct rfl ?_ | refine Q.cf rfl ?_ | (refine GQ.a ?_; refine Q.al (fun b1 => ?_)))
  refine opsS_ent (Ent.cons (Ent.perm (.swap _ _ _))) ?_
  have hs := KeysC_spec ptrV bm mc (cs.map fun c => (c.1, c.2.1)) (vP v mc mi dim mark :: A)
  rw [List.length_map, List.map_map] at hs
  refine S.cr rfl (Sorted_spec _ _ (cs.map (·.1)) _ _ (by rw [List.length_map]; exact hn) (by rw [List.length_map]; exact hs)) ?_
  rintro _ _ ⟨a, c, rfl, rfl⟩
  repeat (first | (refine GQ.y ?_; refine Q.y ?_) | refine Q.go ?_ | (refine GQ.g ?_; refine Q.gq ?_) | (refine GQ.s ?_; refine Q.st ?_) | (refine GQ.g ?_; refine Q.gd ?_) | refine Q.ct rfl ?_ | refine Q.cf rfl ?_ | (refine GQ.a ?_; refine Q.al (fun b1 => ?_)))
  rw [List.length_map]
  exact N.r1 (RV.tmp rfl RV.nil) (Ent.cons (Ent.perm (.swap _ _ _))) ⟨a, c, rfl, rfl⟩
theorem sortL_mem {ks : List Int} {k : Nat} {x : Int} (h : (sortL ks)[k]? = some x) : x ∈ ks := (sortL_perm ks).mem_iff.1 (List.mem_of_getElem? h)
/-- An entry as it lies. -/
abbrev EnV := Int × Option Addr × Nat × Nat
abbrev EnV.cells (e : EnV) : List Value := [.int .u64 e.1, .slice e.2.1 e.2.2.1 e.2.2.2]
set_option maxHeartbeats 1000000 in
theorem DumpLen_spec (v : Nat) (st : VS) (n : Nat) (L : List HP) (hw : WF st n) (hn : n ≤ 10000) :
    CallsS Try.prog 19 [ptrV v] (vaultH v st :: L) (fun r L' => (∃ a c, r = .slice a st.ch.length c) ∧ L' = vaultH v st :: L) := by
  refine calls_vault fun mc mi M cs is hok => ?_
  have hcl : cs.length = st.ch.length := by rw [← hok.ch]; simp
  have hcn : cs.length ≤ 16 * n := by rw [hcl]; exact hw.cl
  refine CallsS.of_body Try.func19 rfl rfl rfl ?_
  repeat (first | (refine GQ.y ?_; refine Q.y ?_) | refine Q.go ?_ | (refine GQ.g ?_; refine Q.gq ?_) | (refine GQ.s ?_; refine Q.st ?_) | (refine GQ.g ?_; refine Q.gd ?_) | refine Q.ct rfl ?_ | refine Q.cf rfl ?_ | (refine GQ.a ?_; refine Q.al (fun b1 => ?_)))
  refine S.cr rfl (Ids_spec v mc mi st.dim st.mark cs _ (by omega)) ?_
  rintro _ _ ⟨a, c, rfl, rfl⟩
  repeat (first | (refine GQ.y ?_; refine Q.y ?_) | refine Q.go ?_ | (refine GQ.g ?_; refine Q.gq ?_) | (refine GQ.s ?_; refine Q.st ?_) | (refine GQ.g ?_; refine Q.gd ?_) | refine Q.ct rfl ?_ | refine Q.cf rfl ?_ | (refine GQ.a ?_; refine Q.al (fun b1 => ?_)))
  obtain ⟨ks, hks⟩ : ∃ ks, ks = sortL (cs.map (·.1)) := ⟨_, rfl⟩
  have hkl : ks.length = cs.length := by rw [hks, sortL_len, List.length_map]
  rw [← hks]
  have hkm : ∀ x ∈ ks, ∃ u ∈ cs, u.1 = x := fun x hx => by
    rw [hks] at hx
    obtain ⟨u, hu, e⟩ := List.mem_map.1 ((sortL_perm _).mem_iff.1 hx)
    exact ⟨u, hu, e⟩
  clear hks
  have hkk : keysOK (cs.map fun c => (c.1, c.2.2)) := by rw [hok.ch]; exact hok.k1
  refine swp_addr a (fun ha => ?_)
  rw [← hkl] at ha ⊢
  refine swp_cutB (σ := Option Addr × Nat × List EnV) (fun u => [(3, .slice u.1 u.2.2.length u.2.1)]) (fun u => vP v mc mi st.dim st.mark :: vC mc cs :: vI mi is :: chsH M cs :: roM M :: L) (fun u => u.2.2.length = ks.length) ?_ ?_
  · refine swp_loop (σ := Nat × Option Addr × Nat × List EnV) (fun u => [(0, ptrV v), (9, .slice a ks.length c), (10, .int .i64 ks.length), (3, .slice u.2.1 u.2.2.2.length u.2.2.1), (11, .int .i64 u.1)])
      (fun u => slO 23 1 a ks.length c (ks.map U64) :: slO 76 2 u.2.1 u.2.2.2.length u.2.2.1 (u.2.2.2.flatMap EnV.cells) :: vP v mc mi st.dim st.mark :: vC mc cs :: vI mi is :: chsH M cs :: roM M :: L)
      (fun u => u.1 ≤ ks.length ∧ u.2.2.2.length = u.1) (fun u => ks.length - u.1) (0, none, 0, []) ⟨rfl, rfl, rfl, rfl, rfl, trivial⟩ ?_ ⟨by omega, rfl⟩ ?_
    · refine Ent.cons (Ent.trans ?_ slO_nil)
      repeat (first | exact Ent.refl _ | exact Ent.nil | refine Ent.pick ?_ | refine Ent.nilS ?_ | refine Ent.nilM ?_ | refine Ent.drop ?_)
    rintro ⟨k, a3, c3, es⟩ ⟨hk, hes⟩
    dsimp only at hk hes ⊢
    by_cases hlt : k < ks.length
    · obtain ⟨x, hx⟩ := mem_get hlt
      obtain ⟨u, hu, hux⟩ := hkm x (List.mem_of_getElem? hx)
      rcases ha with ha | ⟨b, rfl⟩
      · omega
      rcases cr_case cs hkk x with ⟨p, q, b2, vs, e0, e1, e2, e3, e4⟩ | ⟨e1, e2, e3⟩
      · have hrs : RdS (slO 23 1 (some ⟨b, 0, none⟩) ks.length c (ks.map U64) :: slO 76 2 a3 es.length c3 (es.flatMap EnV.cells) :: vP v mc mi st.dim st.mark :: vC mc cs :: vI mi is :: chsH M cs :: roM M :: L) (some ⟨b, 0, none⟩) ks.length 1 (ks.flatMap cU) := by
          rw [flat_U]; exact RdS.ofS (by simp) (.inr ⟨b, rfl⟩)
        obtain ⟨b', o', hbo, hr⟩ := RdS.elem (g := cU) (fun _ => rfl) hrs hx rfl
        cases hbo
        clear hrs
        have hmc : (x, b2, vs) ∈ cs := by rw [e0]; simp
        obtain ⟨R, hR⟩ := chs_mem (M := M) hmc
        have hco := hw.co (x, vs) (by rw [← hok.ch]; exact List.mem_map_of_mem (f := fun c : CR => (c.1, c.2.2)) hmc)
        repeat (first | (refine GQ.y ?_; refine Q.y ?_) | refine Q.go ?_ | (refine GQ.g ?_; refine Q.gq ?_) | (refine GQ.s ?_; refine Q.st ?_) | (refine GQ.g ?_; refine Q.gd ?_) | refine Q.ct rfl ?_ | refine Q.cf rfl ?_ | (refine GQ.a ?_; refine Q.al (fun b1 => ?_)))
        refine S.y (Y.lk false rfl rfl (fun w => Try.zeroValue104 w)) ?_
        rw [e1]
        dsimp only
        refine opsS_ent (L' := chainH M b2 vs :: roM M :: R :: slO 23 1 (some ⟨b, 0, none⟩) ks.length c (ks.map U64) :: slO 76 2 a3 es.length c3 (es.flatMap EnV.cells) :: vP v mc mi st.dim st.mark :: vC mc cs :: vI mi is :: L) ?_ ?_
        · refine Ent.trans (?_ : Ent _ (chsH M cs :: roM M :: slO 23 1 (some ⟨b, 0, none⟩) ks.length c (ks.map U64) :: slO 76 2 a3 es.length c3 (es.flatMap EnV.cells) :: vP v mc mi st.dim st.mark :: vC mc cs :: vI mi is :: L)) ?_
          · repeat (first | exact Ent.refl _ | exact Ent.nil | refine Ent.pick ?_ | refine Ent.nilS ?_ | refine Ent.nilM ?_ | refine Ent.drop ?_)
          exact (hR _).1.trans (Ent.cons (Ent.perm (.swap _ _ _)))
        refine S.cr rfl (List_spec M b2 vs _ (by have := hco.2.1; dsimp only at this; omega) (fun w hw => by have := hco.2.2 w hw; omega)) ?_
        rintro _ _ ⟨a5, c5, ovs, hov, rfl, rfl⟩
        repeat (first | (refine GQ.y ?_; refine Q.y ?_) | refine Q.go ?_ | (refine GQ.g ?_; refine Q.gq ?_) | (refine GQ.s ?_; refine Q.st ?_) | (refine GQ.g ?_; refine Q.gd ?_) | refine Q.ct rfl ?_ | refine Q.cf rfl ?_ | (refine GQ.a ?_; refine Q.al (fun b1 => ?_)))
        refine S.app rfl rfl (SrcS.sl RdC.row (by rfl) (by rfl)) (by rfl) (by omega) (by omega) (fun a4 c4 => ?_)
        repeat (first | (refine GQ.y ?_; refine Q.y ?_) | refine Q.go ?_ | (refine GQ.g ?_; refine Q.gq ?_) | (refine GQ.s ?_; refine Q.st ?_) | (refine GQ.g ?_; refine Q.gd ?_) | refine Q.ct rfl ?_ | refine Q.cf rfl ?_ | (refine GQ.a ?_; refine Q.al (fun b1 => ?_)))
        refine ⟨(k + 1, a4, c4, es ++ [(x, a5, ovs.length, c5)]), ⟨rfl, rfl, rfl, congrArg some (by simp), rfl, trivial⟩, ?_, ⟨by dsimp only; omega, by simp [hes]⟩, by dsimp only; omega⟩
        dsimp only
        rw [len_snoc, flat_snoc]
        refine Ent.pick (Ent.pick (Ent.pick (Ent.pick (Ent.pick ?_))))
        refine Ent.trans ?_ (hR _).2
        repeat (first | exact Ent.refl _ | exact Ent.nil | refine Ent.pick ?_ | refine Ent.nilS ?_ | refine Ent.nilM ?_ | refine Ent.drop ?_)
      · exact absurd hux (e3 u hu)
    · have hke : k = ks.length := by omega
      subst hke
      repeat (first | (refine GQ.y ?_; refine Q.y ?_) | refine Q.go ?_ | (refine GQ.g ?_; refine Q.gq ?_) | (refine GQ.s ?_; refine Q.st ?_) | (refine GQ.g ?_; refine Q.gd ?_) | refine Q.ct rfl ?_ | refine Q.cf rfl ?_ | (refine GQ.a ?_; refine Q.al (fun b1 => ?_)))
      exact ⟨(a3, c3, es), ⟨congrArg some (by simp), trivial⟩, by repeat (first | exact Ent.refl _ | exact Ent.nil | refine Ent.pick ?_ | refine Ent.nilS ?_ | refine Ent.nilM ?_ | refine Ent.drop ?_), hes⟩
  rintro ⟨a3, c3, es⟩ hes
  dsimp only at hes ⊢
  repeat (first | (refine GQ.y ?_; refine Q.y ?_) | refine Q.go ?_ | (refine GQ.g ?_; refine Q.gq ?_) | (refine GQ.s ?_; refine Q.st ?_) | (refine GQ.g ?_; refine Q.gd ?_) | refine Q.ct rfl ?_ | refine Q.cf rfl ?_ | (refine GQ.a ?_; refine Q.al (fun b1 => ?_)))
  refine N.r1 (RV.tmp rfl RV.nil) (vault_shut hok) ⟨⟨a3, c3, ?_⟩, rfl⟩
  rw [hes, hkl, hcl]
set_option maxHeartbeats 1000000 in
theorem IntentsLen_spec (v : Nat) (st : VS) (n : Nat) (L : List HP) (hw : WF st n) (hn : n ≤ 10000) :
    CallsS Try.prog 12 [ptrV v] (vaultH v st :: L) (fun r L' => (∃ a c, r = .slice a st.its.length c) ∧ L' = vaultH v st :: L) := by
  refine calls_vault fun mc mi M cs is hok => ?_
  have hcl : is.length = st.its.length := by rw [← hok.its]; simp
  have hcn : is.length ≤ n := by rw [hcl]; exact hw.il
  refine CallsS.of_body Try.func12 rfl rfl rfl ?_
  repeat (first | (refine GQ.y ?_; refine Q.y ?_) | refine Q.go ?_ | (refine GQ.g ?_; refine Q.gq ?_) | (refine GQ.s ?_; refine Q.st ?_) | (refine GQ.g ?_; refine Q.gd ?_) | refine Q.ct rfl ?_ | refine Q.cf rfl ?_ | (refine GQ.a ?_; refine Q.al (fun b1 => ?_)))
  refine S.cr rfl (MapKeysI_spec (some mi) _) ?_
  rintro _ _ ⟨bm, rfl, rfl⟩
  repeat (first | (refine GQ.y ?_; refine Q.y ?_) | refine Q.go ?_ | (refine GQ.g ?_; refine Q.gq ?_) | (refine GQ.s ?_; refine Q.st ?_) | (refine GQ.g ?_; refine Q.gd ?_) | refine Q.ct rfl ?_ | refine Q.cf rfl ?_ | (refine GQ.a ?_; refine Q.al (fun b1 => ?_)))
  have hs := KeysI_spec IV.val bm mi (is.map fun i => (i.txn, i)) (vP v mc mi st.dim st.mark :: vC mc cs :: chsH M cs :: roM M :: L)
  rw [List.length_map, List.map_map] at hs
  refine opsS_ent (L' := pt bm (cl [.map (some mi)] 84) :: vI mi is :: vP v mc mi st.dim st.mark :: vC mc cs :: chsH M cs :: roM M :: L) (by repeat (first | exact Ent.refl _ | exact Ent.nil | refine Ent.pick ?_ | refine Ent.nilS ?_ | refine Ent.nilM ?_ | refine Ent.drop ?_)) ?_
  refine S.cr rfl (Sorted_spec _ _ (is.map (·.txn)) _ _ (by rw [List.length_map]; omega) (by rw [List.length_map]; exact hs)) ?_
  rintro _ _ ⟨a, c, rfl, rfl⟩
  rw [List.length_map]
  repeat (first | (refine GQ.y ?_; refine Q.y ?_) | refine Q.go ?_ | (refine GQ.g ?_; refine Q.gq ?_) | (refine GQ.s ?_; refine Q.st ?_) | (refine GQ.g ?_; refine Q.gd ?_) | refine Q.ct rfl ?_ | refine Q.cf rfl ?_ | (refine GQ.a ?_; refine Q.al (fun b1 => ?_)))
  obtain ⟨ks, hks⟩ : ∃ ks, ks = sortL (is.map (·.txn)) := ⟨_, rfl⟩
  have hkl : ks.length = is.length := by rw [hks, sortL_len, List.length_map]
  rw [← hks]
  have hkm : ∀ x ∈ ks, ∃ u ∈ is, u.txn = x := fun x hx => by
    rw [hks] at hx
    obtain ⟨u, hu, e⟩ := List.mem_map.1 ((sortL_perm _).mem_iff.1 hx)
    exact ⟨u, hu, e⟩
  clear hks hs
  refine swp_addr a (fun ha => ?_)
  rw [← hkl] at ha ⊢
  refine swp_cutB (σ := Option Addr × Nat × List IV) (fun u => [(3, .slice u.1 u.2.2.length u.2.1)]) (fun u => vP v mc mi st.dim st.mark :: vC mc cs :: vI mi is :: chsH M cs :: roM M :: L) (fun u => u.2.2.length = ks.length) ?_ ?_
  · refine swp_loop (σ := Nat × Option Addr × Nat × List IV) (fun u => [(0, ptrV v), (13, .slice a ks.length c), (14, .int .i64 ks.length), (3, .slice u.2.1 u.2.2.2.length u.2.2.1), (15, .int .i64 u.1)])
      (fun u => slO 23 1 a ks.length c (ks.map U64) :: slO 44 3 u.2.1 u.2.2.2.length u.2.2.1 (u.2.2.2.flatMap IV.cells) :: vP v mc mi st.dim st.mark :: vC mc cs :: vI mi is :: chsH M cs :: roM M :: L)
      (fun u => u.1 ≤ ks.length ∧ u.2.2.2.length = u.1) (fun u => ks.length - u.1) (0, none, 0, []) ⟨rfl, rfl, rfl, rfl, rfl, trivial⟩ ?_ ⟨by omega, rfl⟩ ?_
    · refine Ent.cons (Ent.trans ?_ slO_nil)
      repeat (first | exact Ent.refl _ | exact Ent.nil | refine Ent.pick ?_ | refine Ent.nilS ?_ | refine Ent.nilM ?_ | refine Ent.drop ?_)
    rintro ⟨k, a3, c3, es⟩ ⟨hk, hes⟩
    dsimp only at hk hes ⊢
    by_cases hlt : k < ks.length
    · obtain ⟨x, hx⟩ := mem_get hlt
      obtain ⟨u, hu, hux⟩ := hkm x (List.mem_of_getElem? hx)
      rcases ha with ha | ⟨b, rfl⟩
      · omega
      cases hz : lkL (is.map fun i => (i.txn, i)) x with
      | none => exact absurd hux (lk_none' hz _ (List.mem_map_of_mem (f := fun i : IV => (i.txn, i)) hu))
      | some y =>
        obtain ⟨hmy, hyt⟩ := lk_mem hz
        have hrs : RdS (slO 23 1 (some ⟨b, 0, none⟩) ks.length c (ks.map U64) :: slO 44 3 a3 es.length c3 (es.flatMap IV.cells) :: vP v mc mi st.dim st.mark :: vC mc cs :: vI mi is :: chsH M cs :: roM M :: L) (some ⟨b, 0, none⟩) ks.length 1 (ks.flatMap cU) := by
          rw [flat_U]; exact RdS.ofS (by simp) (.inr ⟨b, rfl⟩)
        obtain ⟨b', o', hbo, hr⟩ := RdS.elem (g := cU) (fun _ => rfl) hrs hx rfl
        cases hbo
        clear hrs
        have hio := hw.io y.abs (by rw [← hok.its]; exact List.mem_map_of_mem hmy)
        have hyl : y.ops.length ≤ 16 := by simpa using hio.1
        repeat (first | (refine GQ.y ?_; refine Q.y ?_) | refine Q.go ?_ | (refine GQ.g ?_; refine Q.gq ?_) | (refine GQ.s ?_; refine Q.st ?_) | (refine GQ.g ?_; refine Q.gd ?_) | refine Q.ct rfl ?_ | refine Q.cf rfl ?_ | (refine GQ.a ?_; refine Q.al (fun b1 => ?_)))
        refine S.y (Y.lk false rfl rfl (fun w => Try.zeroValue44 w)) ?_
        rw [hz]
        dsimp only
        refine S.cr rfl (copyOf_spec y _ ((hok.ok y hmy).rd) (by omega) (fun o ho => by have := (hio.2.2 o.abs (List.mem_map_of_mem (f := OV.abs) ho)).1; dsimp only at this; omega)) ?_
        rintro _ _ ⟨a5, c5, us, hus, rfl, rfl⟩
        repeat (first | (refine GQ.y ?_; refine Q.y ?_) | refine Q.go ?_ | (refine GQ.g ?_; refine Q.gq ?_) | (refine GQ.s ?_; refine Q.st ?_) | (refine GQ.g ?_; refine Q.gd ?_) | refine Q.ct rfl ?_ | refine Q.cf rfl ?_ | (refine GQ.a ?_; refine Q.al (fun b1 => ?_)))
        refine S.app rfl rfl (SrcS.sl RdC.row (by rfl) (by rfl)) (by rfl) (by omega) (by omega) (fun a4 c4 => ?_)
        repeat (first | (refine GQ.y ?_; refine Q.y ?_) | refine Q.go ?_ | (refine GQ.g ?_; refine Q.gq ?_) | (refine GQ.s ?_; refine Q.st ?_) | (refine GQ.g ?_; refine Q.gd ?_) | refine Q.ct rfl ?_ | refine Q.cf rfl ?_ | (refine GQ.a ?_; refine Q.al (fun b1 => ?_)))
        refine ⟨(k + 1, a4, c4, es ++ [⟨y.txn, y.after, a5, c5, us⟩]), ⟨rfl, rfl, rfl, congrArg some (by simp), rfl, trivial⟩, ?_, ⟨by dsimp only; omega, by simp [hes]⟩, by dsimp only; omega⟩
        dsimp only
        rw [len_snoc, flat_snoc]
        repeat (first | exact Ent.refl _ | exact Ent.nil | refine Ent.pick ?_ | refine Ent.nilS ?_ | refine Ent.nilM ?_ | refine Ent.drop ?_)
    · have hke : k = ks.length := by omega
      subst hke
      repeat (first | (refine GQ.y ?_; refine Q.y ?_) | refine Q.go ?_ | (refine GQ.g ?_; refine Q.gq ?_) | (refine GQ.s ?_; refine Q.st ?_) | (refine GQ.g ?_; refine Q.gd ?_) | refine Q.ct rfl ?_ | refine Q.cf rfl ?_ | (refine GQ.a ?_; refine Q.al (fun b1 => ?_)))
      exact ⟨(a3, c3, es), ⟨congrArg some (by simp), trivial⟩, by repeat (first | exact Ent.refl _ | exact Ent.nil | refine Ent.pick ?_ | refine Ent.nilS ?_ | refine Ent.nilM ?_ | refine Ent.drop ?_), hes⟩
  rintro ⟨a3, c3, es⟩ hes
  dsimp only at hes ⊢
  repeat (first | (refine GQ.y ?_; refine Q.y ?_) | refine Q.go ?_ | (refine GQ.g ?_; refine Q.gq ?_) | (refine GQ.s ?_; refine Q.st ?_) | (refine GQ.g ?_; refine Q.gd ?_) | refine Q.ct rfl ?_ | refine Q.cf rfl ?_ | (refine GQ.a ?_; refine Q.al (fun b1 => ?_)))
  refine N.r1 (RV.tmp rfl RV.nil) (vault_shut hok) ⟨⟨a3, c3, ?_⟩, rfl⟩
  rw [hes, hkl, hcl]
end Go.Proofs.Ytieejgbjgcbbjaa
/- The vault: Get, Last. No condition. -/
set_option linter.unusedVariables false
set_option linter.unusedSimpArgs false
namespace Go.Proofs.Ytieejgbjgcbbjaa
open Go Go.SX
attribute [local irreducible] swp opsS thenS blockS retS CallsS St Ent YieldS anyS drawS
/-- What Get answers. -/
def getV (st : VS) (id s : Int) : List Int := if openE st s [id] ≠ 0 then [] else atV (chV st.ch id) s
set_option maxHeartbeats 1000000 in
theorem Get_spec (v : Nat) (st : VS) (n : Nat) (id s : Int) (L : List HP) (hw : WF st n) (hn : n ≤ 10000) :
    CallsS Try.prog 20 [ptrV v, .int .u64 id, .int .u64 s] (vaultH v st :: L)
      (fun r L' => ∃ a c, r = .tuple #[.slice a (getV st id s).length c, .bool (decide (0 < (getV st id s).length)), .int .i64 (openE st s [id])] ∧ L' = slO 21 1 a (getV st id s).length c ((getV st id s).map I32) :: vaultH v st :: L) := by
  refine CallsS.of_body Try.func20 rfl rfl rfl ?_
  repeat (first | (refine GQ.y ?_; refine Q.y ?_) | refine Q.go ?_ | (refine GQ.g ?_; refine Q.gq ?_) | (refine GQ.s ?_; refine Q.st ?_) | (refine GQ.g ?_; refine Q.gd ?_) | refine Q.ct rfl ?_ | refine Q.cf rfl ?_ | (refine GQ.a ?_; refine Q.al (fun b1 => ?_)))
  refine S.cv v rfl (open_spec v st s (some ⟨b1, 0, none⟩) 1 [id] _ hw.ops ?_ (by simp)) ?_
  · exact ⟨rfl, .inr ⟨b1, 0, rfl, RdC.row⟩⟩
  rintro _ _ ⟨rfl, rfl⟩
  unfold getV
  by_cases hE : openE st s [id] ≠ 0
  · rw [if_pos hE]
    repeat (first | (refine GQ.y ?_; refine Q.y ?_) | refine Q.go ?_ | (refine GQ.g ?_; refine Q.gq ?_) | (refine GQ.s ?_; refine Q.st ?_) | (refine GQ.g ?_; refine Q.gd ?_) | refine Q.ct rfl ?_ | refine Q.cf rfl ?_ | (refine GQ.a ?_; refine Q.al (fun b1 => ?_)))
    refine N.r3 (RV.tmp rfl (RV.tmp rfl (RV.tmp rfl RV.nil))) ?_ ⟨none, 0, rfl, rfl⟩
    refine Ent.trans ?_ slO_nil
    repeat (first | exact Ent.refl _ | exact Ent.nil | refine Ent.pick ?_ | refine Ent.nilS ?_ | refine Ent.nilM ?_ | refine Ent.drop ?_)
  · rw [if_neg hE]
    have hE0 : openE st s [id] = 0 := by omega
    rw [hE0]
    repeat (first | (refine GQ.y ?_; refine Q.y ?_) | refine Q.go ?_ | (refine GQ.g ?_; refine Q.gq ?_) | (refine GQ.s ?_; refine Q.st ?_) | (refine GQ.g ?_; refine Q.gd ?_) | refine Q.ct rfl ?_ | refine Q.cf rfl ?_ | (refine GQ.a ?_; refine Q.al (fun b1 => ?_)))
    refine opsS_vault v (fun mc mi M cs is hok => ?_)
    have hkk : keysOK (cs.map fun c => (c.1, c.2.2)) := by rw [hok.ch]; exact hok.k1
    repeat (first | (refine GQ.y ?_; refine Q.y ?_) | refine Q.go ?_ | (refine GQ.g ?_; refine Q.gq ?_) | (refine GQ.s ?_; refine Q.st ?_) | (refine GQ.g ?_; refine Q.gd ?_) | refine Q.ct rfl ?_ | refine Q.cf rfl ?_ | (refine GQ.a ?_; refine Q.al (fun b1 => ?_)))
    refine S.y (Y.lk false rfl rfl (fun w => Try.zeroValue104 w)) ?_
    rcases cr_case cs hkk id with ⟨p, q, b2, vs, e0, e1, e2, e3, e4⟩ | ⟨e1, e2, e3⟩
    · have hcv : chV st.ch id = vs := by unfold chV; rw [← hok.ch, e2]; rfl
      have hmc : (id, b2, vs) ∈ cs := by rw [e0]; simp
      obtain ⟨R, hR⟩ := chs_mem (M := M) hmc
      have hco := hw.co (id, vs) (by rw [← hok.ch]; exact List.mem_map_of_mem (f := fun c : CR => (c.1, c.2.2)) hmc)
      rw [e1, hcv]
      repeat (first | (refine GQ.y ?_; refine Q.y ?_) | refine Q.go ?_ | (refine GQ.g ?_; refine Q.gq ?_) | (refine GQ.s ?_; refine Q.st ?_) | (refine GQ.g ?_; refine Q.gd ?_) | refine Q.ct rfl ?_ | refine Q.cf rfl ?_ | (refine GQ.a ?_; refine Q.al (fun b1 => ?_)))
      dsimp only
      refine opsS_ent (L' := chainH M b2 vs :: roM M :: R :: pt b1 (cl [.int .u64 id] 23) :: vP v mc mi st.dim st.mark :: vC mc cs :: vI mi is :: L) ?_ ?_
      · refine Ent.trans (?_ : Ent _ (chsH M cs :: roM M :: pt b1 (cl [.int .u64 id] 23) :: vP v mc mi st.dim st.mark :: vC mc cs :: vI mi is :: L)) ?_
        · repeat (first | exact Ent.refl _ | exact Ent.nil | refine Ent.pick ?_ | refine Ent.nilS ?_ | refine Ent.nilM ?_ | refine Ent.drop ?_)
        exact (hR _).1.trans (Ent.cons (Ent.perm (.swap _ _ _)))
      refine S.cr rfl (ChAt_spec M b2 vs s _ hco.1 (by have := hco.2.1; dsimp only at this; omega) (fun w hw => by have := hco.2.2 w hw; omega)) ?_
      rintro _ _ ⟨a5, c5, rfl, rfl⟩
      repeat (first | (refine GQ.y ?_; refine Q.y ?_) | refine Q.go ?_ | (refine GQ.g ?_; refine Q.gq ?_) | (refine GQ.s ?_; refine Q.st ?_) | (refine GQ.g ?_; refine Q.gd ?_) | refine Q.ct rfl ?_ | refine Q.cf rfl ?_ | (refine GQ.a ?_; refine Q.al (fun b1 => ?_)))
      refine N.r3 (RV.tmp rfl (RV.tmp rfl (RV.tmp rfl RV.nil))) ?_ ⟨a5, c5, rfl, rfl⟩
      refine Ent.cons ?_
      refine Ent.trans ?_ (vault_shut (mc := mc) (mi := mi) hok)
      refine Ent.pick (Ent.pick (Ent.pick ?_))
      refine Ent.trans ?_ (hR _).2
      repeat (first | exact Ent.refl _ | exact Ent.nil | refine Ent.pick ?_ | refine Ent.nilS ?_ | refine Ent.nilM ?_ | refine Ent.drop ?_)
    · have hcv : chV st.ch id = [] := by unfold chV; rw [← hok.ch, e2]; rfl
      rw [e1, hcv]
      repeat (first | (refine GQ.y ?_; refine Q.y ?_) | refine Q.go ?_ | (refine GQ.g ?_; refine Q.gq ?_) | (refine GQ.s ?_; refine Q.st ?_) | (refine GQ.g ?_; refine Q.gd ?_) | refine Q.ct rfl ?_ | refine Q.cf rfl ?_ | (refine GQ.a ?_; refine Q.al (fun b1 => ?_)))
      refine S.cr rfl (AtN_spec s _) ?_
      rintro _ _ ⟨rfl, rfl⟩
      repeat (first | (refine GQ.y ?_; refine Q.y ?_) | refine Q.go ?_ | (refine GQ.g ?_; refine Q.gq ?_) | (refine GQ.s ?_; refine Q.st ?_) | (refine GQ.g ?_; refine Q.gd ?_) | refine Q.ct rfl ?_ | refine Q.cf rfl ?_ | (refine GQ.a ?_; refine Q.al (fun b1 => ?_)))
      have hat : atV [] s = [] := by unfold atV aftN; simp
      rw [hat]
      refine N.r3 (RV.tmp rfl (RV.tmp rfl (RV.tmp rfl RV.nil))) ?_ ⟨none, 0, rfl, rfl⟩
      refine Ent.trans ?_ slO_nil
      refine Ent.trans ?_ (vault_shut (mc := mc) (mi := mi) hok)
      repeat (first | exact Ent.refl _ | exact Ent.nil | refine Ent.pick ?_ | refine Ent.nilS ?_ | refine Ent.nilM ?_ | refine Ent.drop ?_)
set_option maxHeartbeats 1000000 in
theorem Last_spec (v : Nat) (st : VS) (n : Nat) (L : List HP) (hw : WF st n) (hn : n ≤ 10000) :
    CallsS Try.prog 22 [ptrV v] (vaultH v st :: L)
      (fun r L' => (∃ m : Int, r = .int .u64 m ∧ (∀ c ∈ st.ch, lastS c.2 ≤ m) ∧ (m = 0 ∨ ∃ c ∈ st.ch, lastS c.2 = m)) ∧ L' = vaultH v st :: L) := by
  refine calls_vault fun mc mi M cs is hok => ?_
  refine CallsS.of_body Try.func22 rfl rfl rfl ?_
  repeat (first | (refine GQ.y ?_; refine Q.y ?_) | refine Q.go ?_ | (refine GQ.g ?_; refine Q.gq ?_) | (refine GQ.s ?_; refine Q.st ?_) | (refine GQ.g ?_; refine Q.gd ?_) | refine Q.ct rfl ?_ | refine Q.cf rfl ?_ | (refine GQ.a ?_; refine Q.al (fun b1 => ?_)))
  refine S.rg rfl (fun r => ?_)
  repeat (first | (refine GQ.y ?_; refine Q.y ?_) | refine Q.go ?_ | (refine GQ.g ?_; refine Q.gq ?_) | (refine GQ.s ?_; refine Q.st ?_) | (refine GQ.g ?_; refine Q.gd ?_) | refine Q.ct rfl ?_ | refine Q.cf rfl ?_ | (refine GQ.a ?_; refine Q.al (fun b1 => ?_)))
  refine swp_cutB (σ := Int) (fun m => [(3, .int .u64 m)]) (fun _ => vP v mc mi st.dim st.mark :: vC mc cs :: vI mi is :: chsH M cs :: roM M :: L) (fun m => (∀ c ∈ cs, lastS c.2.2 ≤ m) ∧ (m = 0 ∨ ∃ c ∈ cs, lastS c.2.2 = m)) ?_ ?_
  · refine swp_loop (σ := List Nat × Int) (fun u => [(12, .pointer (some ⟨r, 0, none⟩)), (3, .int .u64 u.2)])
      (fun u => vP v mc mi st.dim st.mark :: itO U64 ptrV mc r (cs.map fun c => (c.1, c.2.1)) u.1 :: vI mi is :: chsH M cs :: roM M :: L)
      (fun u => u.1.Nodup ∧ (∀ i ∈ u.1, i < cs.length) ∧ (∀ i ∈ u.1, ∀ x, cs[i]? = some x → lastS x.2.2 ≤ u.2) ∧ (u.2 = 0 ∨ ∃ c ∈ cs, lastS c.2.2 = u.2)) (fun u => cs.length - u.1.length) ([], 0) ⟨rfl, rfl, trivial⟩ (by repeat (first | exact Ent.refl _ | exact Ent.nil | refine Ent.pick ?_ | refine Ent.nilS ?_ | refine Ent.nilM ?_ | refine Ent.drop ?_)) ⟨by simp, by simp, by simp, .inl rfl⟩ ?_
    rintro ⟨vis, m⟩ ⟨hv1, hv2, hv3, hv4⟩
    dsimp only at hv1 hv2 hv3 hv4 ⊢
    repeat (first | (refine GQ.y ?_; refine Q.y ?_) | refine Q.go ?_ | (refine GQ.g ?_; refine Q.gq ?_) | (refine GQ.s ?_; refine Q.st ?_) | (refine GQ.g ?_; refine Q.gd ?_) | refine Q.ct rfl ?_ | refine Q.cf rfl ?_ | (refine GQ.a ?_; refine Q.al (fun b1 => ?_)))
    refine S.nx rfl (fun hend => ?_) (fun i p hp hi => ?_)
    · rw [List.length_map] at hend
      repeat (first | (refine GQ.y ?_; refine Q.y ?_) | refine Q.go ?_ | (refine GQ.g ?_; refine Q.gq ?_) | (refine GQ.s ?_; refine Q.st ?_) | (refine GQ.g ?_; refine Q.gd ?_) | refine Q.ct rfl ?_ | refine Q.cf rfl ?_ | (refine GQ.a ?_; refine Q.al (fun b1 => ?_)))
      refine ⟨m, ⟨rfl, trivial⟩, Ent.cons itO_map, fun c hc => ?_, hv4⟩
      obtain ⟨i, hi⟩ := List.mem_iff_getElem?.1 hc
      exact hv3 i (hend i (List.getElem?_eq_some_iff.1 hi).1) c hi
    have hx : ∃ x, cs[i]? = some x ∧ p = (x.1, x.2.1) := by
      rw [List.getElem?_map] at hp
      cases hx : cs[i]? with
      | none => rw [hx] at hp; cases hp
      | some x => rw [hx] at hp; exact ⟨x, rfl, (Option.some.inj hp).symm⟩
    obtain ⟨⟨id, b2, vs⟩, hx, rfl⟩ := hx
    have hmc : (id, b2, vs) ∈ cs := List.mem_of_getElem? hx
    obtain ⟨m1, m2, m3⟩ := vis_more hv1 hv2 (List.getElem?_eq_some_iff.1 hx).1 hi
    obtain ⟨R, hR⟩ := chs_mem (M := M) hmc
    have hco := hw.co (id, vs) (by rw [← hok.ch]; exact List.mem_map_of_mem (f := fun c : CR => (c.1, c.2.2)) hmc)
    repeat (first | (refine GQ.y ?_; refine Q.y ?_) | refine Q.go ?_ | (refine GQ.g ?_; refine Q.gq ?_) | (refine GQ.s ?_; refine Q.st ?_) | (refine GQ.a ?_; refine Q.al (fun b1 => ?_)))
    refine S.y (Y.en rfl hp) ?_
    repeat (first | (refine GQ.y ?_; refine Q.y ?_) | refine Q.go ?_ | (refine GQ.g ?_; refine Q.gq ?_) | (refine GQ.s ?_; refine Q.st ?_) | (refine GQ.g ?_; refine Q.gd ?_) | refine Q.ct rfl ?_ | refine Q.cf rfl ?_ | (refine GQ.a ?_; refine Q.al (fun b1 => ?_)))
    refine opsS_ent (L' := chainH M b2 vs :: R :: vP v mc mi st.dim st.mark :: itO U64 ptrV mc r (cs.map fun c => (c.1, c.2.1)) (vis ++ [i]) :: vI mi is :: roM M :: L) ?_ ?_
    · refine Ent.trans (?_ : Ent _ (chsH M cs :: vP v mc mi st.dim st.mark :: itO U64 ptrV mc r (cs.map fun c => (c.1, c.2.1)) (vis ++ [i]) :: vI mi is :: roM M :: L)) ?_
      · repeat (first | exact Ent.refl _ | exact Ent.nil | refine Ent.pick ?_ | refine Ent.nilS ?_ | refine Ent.nilM ?_ | refine Ent.drop ?_)
      exact (hR _).1
    refine S.cr rfl (ChLast_spec M b2 vs _ (by have := hco.2.1; dsimp only at this; omega)) ?_
    rintro _ _ ⟨rfl, rfl⟩
    repeat (first | (refine GQ.y ?_; refine Q.y ?_) | refine Q.go ?_ | (refine GQ.g ?_; refine Q.gq ?_) | (refine GQ.s ?_; refine Q.st ?_) | (refine GQ.g ?_; refine Q.gd ?_) | refine Q.ct rfl ?_ | refine Q.cf rfl ?_ | (refine GQ.a ?_; refine Q.al (fun b1 => ?_)))
    refine ⟨(vis ++ [i], max m (lastS vs)), ⟨rfl, rfl, trivial⟩, ?_, ⟨m1, m2, fun j hj y hy => ?_, ?_⟩, by simp; omega⟩
    · dsimp only
      refine Ent.trans ((hR _).2) ?_
      repeat (first | exact Ent.refl _ | exact Ent.nil | refine Ent.pick ?_ | refine Ent.nilS ?_ | refine Ent.nilM ?_ | refine Ent.drop ?_)
    · dsimp only
      rcases List.mem_append.1 hj with hj | hj
      · have := hv3 j hj y hy; omega
      · obtain rfl := List.mem_singleton.1 hj
        rw [hx] at hy
        obtain rfl := Option.some.inj hy
        dsimp only; omega
    · dsimp only
      by_cases hm : lastS vs ≤ m
      · rw [show max m (lastS vs) = m by omega]; exact hv4
      · rw [show max m (lastS vs) = lastS vs by omega]; exact .inr ⟨_, hmc, rfl⟩
  rintro m ⟨h1, h2⟩
  repeat (first | (refine GQ.y ?_; refine Q.y ?_) | refine Q.go ?_ | (refine GQ.g ?_; refine Q.gq ?_) | (refine GQ.s ?_; refine Q.st ?_) | (refine GQ.g ?_; refine Q.gd ?_) | refine Q.ct rfl ?_ | refine Q.cf rfl ?_ | (refine GQ.a ?_; refine Q.al (fun b1 => ?_)))
  refine N.r1 (RV.tmp rfl RV.nil) (vault_shut hok) ⟨⟨m, rfl, fun c hc => ?_, ?_⟩, rfl⟩
  · rw [← hok.ch] at hc
    obtain ⟨u, hu, rfl⟩ := List.mem_map.1 hc
    exact h1 u hu
  · rcases h2 with h2 | ⟨c, hc, h2⟩
    · exact .inl h2
    · exact .inr ⟨(c.1, c.2.2), by rw [← hok.ch]; exact List.mem_map_of_mem (f := fun c : CR => (c.1, c.2.2)) hc, h2⟩
end Go.Proofs.Ytieejgbjgcbbjaa
/- The vault's law: Few, awake. No condition. -/
set_option linter.unusedVariables false
set_option linter.unusedSimpArgs false
namespace Go.Proofs.Ytieejgbjgcbbjaa
open Go Go.SX
attribute [local irreducible] swp opsS thenS blockS retS CallsS St Ent YieldS anyS drawS
def fewV (k : Nat) (ops : VL) : VL := (ops.take k).map fun o => (o.1, o.2.take 10)
theorem fewV_all {n : Nat} {l : VL} (h : l.length ≤ n) : fewV n l = l.map fun o => (o.1, o.2.take 10) := by unfold fewV; rw [List.take_of_length_le h]
set_option maxHeartbeats 1000000 in
theorem FewA_spec (n : Nat) (a : Option Addr) (c : Nat) (ops : List OV) (A : List HP) (h : RdO A a ops) (hc : ∀ o ∈ ops, o.vec.length ≤ o.c) (hn : ops.length ≤ 9223372036854775807) (hnn : n ≤ 1000000) :
    CallsS Try.prog 17 [.slice a ops.length c, .int .i64 n] A (fun v L' => ∃ (a' : Option Addr) (c' : Nat) (us : List OV), us.map OV.abs = fewV n (ops.map OV.abs) ∧ (∀ o ∈ us, o.vec.length = 0 ∨ ∃ b, o.a = some ⟨b, 0, none⟩) ∧ v = .slice a' us.length c' ∧ L' = slO 47 2 a' us.length c' (us.flatMap OV.cells) :: vecsH us :: A) := by
  refine CallsS.of_body Try.func17 rfl rfl rfl ?_
  repeat (first | (refine GQ.y ?_; refine Q.y ?_) | refine Q.go ?_ | (refine GQ.g ?_; refine Q.gq ?_) | (refine GQ.s ?_; refine Q.st ?_) | (refine GQ.g ?_; refine Q.gd ?_) | refine Q.ct rfl ?_ | refine Q.cf rfl ?_ | (refine GQ.a ?_; refine Q.al (fun b1 => ?_)))
  refine swp_loop (σ := Nat × Option Addr × Nat × List OV) (fun s => [(1, .int .i64 n), (8, .slice a ops.length c), (9, .int .i64 ops.length), (5, .slice s.2.1 s.2.2.2.length s.2.2.1), (10, .int .i64 s.1)])
    (fun s => slO 47 2 s.2.1 s.2.2.2.length s.2.2.1 (s.2.2.2.flatMap OV.cells) :: vecsH s.2.2.2 :: A)
    (fun s => s.1 ≤ ops.length ∧ s.2.2.2.map OV.abs = fewV n ((ops.take s.1).map OV.abs) ∧ ∀ o ∈ s.2.2.2, o.vec.length = 0 ∨ ∃ b, o.a = some ⟨b, 0, none⟩) (fun s => ops.length - s.1) (0, none, 0, []) ⟨rfl, rfl, rfl, rfl, rfl, trivial⟩ ?_ ⟨by omega, by simp [fewV], by simp⟩ ?_
  · exact Ent.trans (Ent.trans bodV_nil slO_nil) (Ent.refl _)
  rintro ⟨k, a3, c3, us⟩ ⟨hk, hus, hua⟩
  dsimp only at hk hus hua ⊢
  have hul : us.length = min n k := by
    have := congrArg List.length hus
    simp [fewV] at this; omega
  by_cases hlt : k < ops.length
  · obtain ⟨o, ho⟩ := mem_get hlt
    have hmo : o ∈ ops := List.mem_of_getElem? ho
    obtain ⟨b, oo, hia, hr⟩ := RdS.elem (g := OV.cells) (fun _ => rfl) h.1 ho rfl
    rw [hia]
    repeat (first | (refine GQ.y ?_; refine Q.y ?_) | refine Q.go ?_ | (refine GQ.g ?_; refine Q.gq ?_) | (refine GQ.s ?_; refine Q.st ?_) | (refine GQ.a ?_; refine Q.al (fun b1 => ?_)))
    by_cases hkn : k < n
    · repeat (first | (refine GQ.y ?_; refine Q.y ?_) | refine Q.go ?_ | (refine GQ.g ?_; refine Q.gq ?_) | (refine GQ.s ?_; refine Q.st ?_) | (refine GQ.g ?_; refine Q.gd ?_) | refine Q.ct rfl ?_ | refine Q.cf rfl ?_ | (refine GQ.a ?_; refine Q.al (fun b1 => ?_)))
      refine Q.dgo [true, false, false] [5, 7, 8] [] [0, 1, 2, 3, 4, 5, 6, 7, 8, 9] ?_
      repeat (first | refine D.endA ?_ | refine Q.dy rfl rfl rfl ?_ | refine Q.dp rfl rfl rfl ?_ | refine D.end_ ?_ | refine Q.endH ?_ | (refine D.e rfl rfl rfl ?_; (first | refine S.gskip1 rfl ?_ | refine S.gskip rfl ?_ | refine S.y (Y.gskipU rfl) ?_); refine opsS_nil ?_; refine N.tn ?_) | refine Q.dT rfl rfl rfl ?_ | refine Q.dF rfl rfl rfl ?_ | (refine D.e rfl rfl rfl ?_; (first | (refine GQ.a ?_; refine Q.al (fun b1 => ?_)) | (refine GQ.s ?_; refine Q.st ?_)); refine opsS_nil ?_; refine N.tn ?_))
      refine D.e rfl rfl rfl ?_
      refine S.cr rfl (CutVec_spec o.a o.c 10 o.vec _ ((h.2 o hmo).sub) (hc o hmo) (by omega)) ?_
      rintro _ _ ⟨a', c', rfl, rfl⟩
      refine opsS_addr a' (fun ha' => ?_)
      repeat (first | (refine GQ.y ?_; refine Q.y ?_) | refine Q.go ?_ | (refine GQ.g ?_; refine Q.gq ?_) | (refine GQ.s ?_; refine Q.st ?_) | (refine GQ.g ?_; refine Q.gd ?_) | refine Q.ct rfl ?_ | refine Q.cf rfl ?_ | (refine GQ.a ?_; refine Q.al (fun b1 => ?_)))
      repeat (first | refine D.endA ?_ | refine Q.dy rfl rfl rfl ?_ | refine Q.dp rfl rfl rfl ?_ | refine D.end_ ?_ | refine Q.endH ?_ | (refine D.e rfl rfl rfl ?_; (first | refine S.gskip1 rfl ?_ | refine S.gskip rfl ?_ | refine S.y (Y.gskipU rfl) ?_); refine opsS_nil ?_; refine N.tn ?_) | refine Q.dT rfl rfl rfl ?_ | refine Q.dF rfl rfl rfl ?_ | (refine D.e rfl rfl rfl ?_; (first | (refine GQ.a ?_; refine Q.al (fun b1 => ?_)) | (refine GQ.s ?_; refine Q.st ?_)); refine opsS_nil ?_; refine N.tn ?_))
      refine D.e rfl rfl rfl ?_
      refine S.app rfl rfl (SrcS.sl RdC.row (by rfl) (by rfl)) (by rfl) (by omega) (by omega) (fun a4 c4 => ?_)
      repeat (first | (refine GQ.y ?_; refine Q.y ?_) | refine Q.go ?_ | (refine GQ.g ?_; refine Q.gq ?_) | (refine GQ.s ?_; refine Q.st ?_) | (refine GQ.g ?_; refine Q.gd ?_) | refine Q.ct rfl ?_ | refine Q.cf rfl ?_ | (refine GQ.a ?_; refine Q.al (fun b1 => ?_)))
      repeat (first | refine D.endA ?_ | refine Q.dy rfl rfl rfl ?_ | refine Q.dp rfl rfl rfl ?_ | refine D.end_ ?_ | refine Q.endH ?_ | (refine D.e rfl rfl rfl ?_; (first | refine S.gskip1 rfl ?_ | refine S.gskip rfl ?_ | refine S.y (Y.gskipU rfl) ?_); refine opsS_nil ?_; refine N.tn ?_) | refine Q.dT rfl rfl rfl ?_ | refine Q.dF rfl rfl rfl ?_ | (refine D.e rfl rfl rfl ?_; (first | (refine GQ.a ?_; refine Q.al (fun b1 => ?_)) | (refine GQ.s ?_; refine Q.st ?_)); refine opsS_nil ?_; refine N.tn ?_))
      repeat (first | (refine GQ.y ?_; refine Q.y ?_) | refine Q.go ?_ | (refine GQ.g ?_; refine Q.gq ?_) | (refine GQ.s ?_; refine Q.st ?_) | (refine GQ.g ?_; refine Q.gd ?_) | refine Q.ct rfl ?_ | refine Q.cf rfl ?_ | (refine GQ.a ?_; refine Q.al (fun b1 => ?_)))
      refine ⟨(k + 1, a4, c4, us ++ [⟨o.id, a', c', o.vec.take 10⟩]), ⟨rfl, rfl, rfl, congrArg some (by simp), rfl, trivial⟩, ?_, ⟨by dsimp only; omega, ?_, ?_⟩, by dsimp only; omega⟩
      · dsimp only
        rw [len_snoc, flat_snoc]
        refine Ent.pick (Ent.trans ?_ (vecs_snoc (o := ⟨o.id, a', c', o.vec.take 10⟩) rfl))
        repeat (first | exact Ent.refl _ | exact Ent.nil | refine Ent.pick ?_ | refine Ent.nilS ?_ | refine Ent.nilM ?_ | refine Ent.drop ?_)
      · dsimp only
        rw [List.map_append, hus, fewV_all (l := (ops.take k).map OV.abs) (by simp; omega), fewV_all (l := (ops.take (k + 1)).map OV.abs) (by simp; omega), take_snoc ho, List.map_append, List.map_append]; rfl
      · intro u hu
        rcases List.mem_append.1 hu with hu | hu
        · exact hua u hu
        · obtain rfl := List.mem_singleton.1 hu
          exact ha'
    · repeat (first | (refine GQ.y ?_; refine Q.y ?_) | refine Q.go ?_ | (refine GQ.g ?_; refine Q.gq ?_) | (refine GQ.s ?_; refine Q.st ?_) | (refine GQ.g ?_; refine Q.gd ?_) | refine Q.ct rfl ?_ | refine Q.cf rfl ?_ | (refine GQ.a ?_; refine Q.al (fun b1 => ?_)))
      refine ⟨(k + 1, a3, c3, us), ⟨rfl, rfl, rfl, rfl, rfl, trivial⟩, by repeat (first | exact Ent.refl _ | exact Ent.nil | refine Ent.pick ?_ | refine Ent.nilS ?_ | refine Ent.nilM ?_ | refine Ent.drop ?_), ⟨by dsimp only; omega, ?_, hua⟩, by dsimp only; omega⟩
      dsimp only
      rw [hus]
      unfold fewV
      rw [← List.map_take, ← List.map_take, List.take_take, List.take_take, show min n k = min n (k + 1) by omega]
  · have hke : k = ops.length := by omega
    subst hke
    rw [List.take_length] at hus
    repeat (first | (refine GQ.y ?_; refine Q.y ?_) | refine Q.go ?_ | (refine GQ.g ?_; refine Q.gq ?_) | (refine GQ.s ?_; refine Q.st ?_) | (refine GQ.g ?_; refine Q.gd ?_) | refine Q.ct rfl ?_ | refine Q.cf rfl ?_ | (refine GQ.a ?_; refine Q.al (fun b1 => ?_)))
    exact N.r1 (RV.tmp rfl RV.nil) (by repeat (first | exact Ent.refl _ | exact Ent.nil | refine Ent.pick ?_ | refine Ent.nilS ?_ | refine Ent.nilM ?_ | refine Ent.drop ?_)) ⟨a3, c3, us, hus, hua, rfl, rfl⟩
theorem Few_spec (n : Nat) (a : Option Addr) (c : Nat) (ops : List OV) (A : List HP) (h : RdO A a ops) (hc : ∀ o ∈ ops, o.vec.length ≤ o.c) (hn : ops.length ≤ 9223372036854775807) (hnn : n ≤ 1000000) :
    CallsS Try.prog 17 [.slice a ops.length c, .int .i64 n] A (fun v L' => ∃ (a' : Option Addr) (c' : Nat) (us : List OV), us.map OV.abs = fewV n (ops.map OV.abs) ∧ v = .slice a' us.length c' ∧ L' = slO 47 2 a' us.length c' (us.flatMap OV.cells) :: vecsH us :: A) :=
  (FewA_spec n a c ops A h hc hn hnn).mono fun v L' ⟨a', c', us, h1, _, h2, h3⟩ => ⟨a', c', us, h1, h2, h3⟩
theorem WF0 (d : Int) (h1 : 1 ≤ d) (h2 : d ≤ 8) (n : Nat) : WF ⟨d, [], [], 0⟩ n := ⟨h1, h2, Nat.zero_le _, by simp, Nat.zero_le _, by simp⟩
theorem aw_lock : lockE ⟨1, [], [], 0⟩ 7 3 [(1, [5])] = 0 := by decide
theorem aw_lockS : lockS ⟨1, [], [], 0⟩ 7 3 [(1, [5])] = ⟨1, [], [(7, 3, [(1, [5])])], 0⟩ := by unfold lockS; rw [if_pos aw_lock]; rfl
theorem aw_wf : WF ⟨1, [], [(7, 3, [(1, [5])])], 0⟩ 1 := ⟨by decide, by decide, by decide, by simp; decide, by decide, by simp⟩
theorem aw_b3 : blockedV ⟨1, [], [(7, 3, [(1, [5])])], 0⟩ 3 [1] = false := by decide
theorem aw_b4 : blockedV ⟨1, [], [(7, 3, [(1, [5])])], 0⟩ 4 [1] = true := by decide
theorem aw_lock2 : lockE ⟨1, [], [(7, 3, [(1, [5])])], 0⟩ 8 0 [(1, [5])] = 11 := by decide
theorem aw_lock2S : lockS ⟨1, [], [(7, 3, [(1, [5])])], 0⟩ 8 0 [(1, [5])] = ⟨1, [], [(7, 3, [(1, [5])])], 0⟩ := by unfold lockS; rw [if_neg (by rw [aw_lock2]; decide)]
theorem aw_a3 : applyE ⟨1, [], [(7, 3, [(1, [5])])], 0⟩ 7 3 = 1 := by decide
theorem aw_a4 : applyE ⟨1, [], [(7, 3, [(1, [5])])], 0⟩ 7 4 = 0 := by decide
set_option maxHeartbeats 1000000 in
theorem awake_spec (L : List HP) : CallsS Try.prog 9 [] L (fun v L' => v = .bool true ∧ L' = L) := by
  refine CallsS.of_body Try.func9 rfl rfl rfl ?_
  repeat (first | (refine GQ.y ?_; refine Q.y ?_) | refine Q.go ?_ | (refine GQ.g ?_; refine Q.gq ?_) | (refine GQ.s ?_; refine Q.st ?_) | (refine GQ.g ?_; refine Q.gd ?_) | refine Q.ct rfl ?_ | refine Q.cf rfl ?_ | (refine GQ.a ?_; refine Q.al (fun b1 => ?_)))
  refine S.cr rfl (New_spec 1 _ (by decide) (by decide)) ?_
  rintro _ _ ⟨v, rfl, rfl⟩
  repeat (first | (refine GQ.y ?_; refine Q.y ?_) | refine Q.go ?_ | (refine GQ.g ?_; refine Q.gq ?_) | (refine GQ.s ?_; refine Q.st ?_) | (refine GQ.g ?_; refine Q.gd ?_) | refine Q.ct rfl ?_ | refine Q.cf rfl ?_ | (refine GQ.a ?_; refine Q.al (fun b1 => ?_)))
  rename_i bv
  refine S.cv v rfl (Lock_spec v _ ⟨7, 3, some ⟨b1, 0, none⟩, 1, [⟨1, some ⟨bv, 0, none⟩, 1, [5]⟩]⟩ _ (WF0 1 (by decide) (by decide) 0).ops ?_ (by simp) (fun o ho => by obtain rfl := List.mem_singleton.1 ho; simp) (by decide)) ?_
  · exact ⟨⟨rfl, .inr ⟨b1, 0, rfl, RdC.row⟩⟩, fun o ho => by obtain rfl := List.mem_singleton.1 ho; exact ⟨rfl, .inr ⟨bv, 0, rfl, RdC.row⟩⟩⟩
  rintro r L' ⟨hr, hL⟩
  replace hr := hr.trans (congrArg (Value.int .i64) aw_lock)
  replace hL := hL.trans (congrArg (fun S => vaultH v S :: _) aw_lockS)
  subst hr hL
  repeat (first | (refine GQ.y ?_; refine Q.y ?_) | refine Q.go ?_ | (refine GQ.g ?_; refine Q.gq ?_) | (refine GQ.s ?_; refine Q.st ?_) | (refine GQ.g ?_; refine Q.gd ?_) | refine Q.ct rfl ?_ | refine Q.cf rfl ?_ | (refine GQ.a ?_; refine Q.al (fun b1 => ?_)))
  rename_i bo
  refine S.cv v rfl (Blocked_spec v _ 3 (some ⟨b1, 0, none⟩) 1 [1] _ aw_wf.ops ?_ (by simp)) ?_
  · exact ⟨rfl, .inr ⟨b1, 0, rfl, RdC.row⟩⟩
  rintro r L' ⟨hr, hL⟩
  replace hr := hr.trans (congrArg Value.bool aw_b3)
  subst hr hL
  repeat (first | (refine GQ.y ?_; refine Q.y ?_) | refine Q.go ?_ | (refine GQ.g ?_; refine Q.gq ?_) | (refine GQ.s ?_; refine Q.st ?_) | (refine GQ.g ?_; refine Q.gd ?_) | refine Q.ct rfl ?_ | refine Q.cf rfl ?_ | (refine GQ.a ?_; refine Q.al (fun b1 => ?_)))
  rename_i b3
  refine S.cv v rfl (Blocked_spec v _ 4 (some ⟨b1, 0, none⟩) 1 [1] _ aw_wf.ops ?_ (by simp)) ?_
  · exact ⟨rfl, .inr ⟨b1, 0, rfl, RdC.row⟩⟩
  rintro r L' ⟨hr, hL⟩
  replace hr := hr.trans (congrArg Value.bool aw_b4)
  subst hr hL
  repeat (first | (refine GQ.y ?_; refine Q.y ?_) | refine Q.go ?_ | (refine GQ.g ?_; refine Q.gq ?_) | (refine GQ.s ?_; refine Q.st ?_) | (refine GQ.g ?_; refine Q.gd ?_) | refine Q.ct rfl ?_ | refine Q.cf rfl ?_ | (refine GQ.a ?_; refine Q.al (fun b1 => ?_)))
  refine S.cv v rfl (Lock_spec v _ ⟨8, 0, some ⟨bo, 0, none⟩, 1, [⟨1, some ⟨bv, 0, none⟩, 1, [5]⟩]⟩ _ aw_wf.ops ?_ (by simp) (fun o ho => by obtain rfl := List.mem_singleton.1 ho; simp) (by decide)) ?_
  · exact ⟨⟨rfl, .inr ⟨bo, 0, rfl, RdC.row⟩⟩, fun o ho => by obtain rfl := List.mem_singleton.1 ho; exact ⟨rfl, .inr ⟨bv, 0, rfl, RdC.row⟩⟩⟩
  rintro r L' ⟨hr, hL⟩
  replace hr := hr.trans (congrArg (Value.int .i64) aw_lock2)
  replace hL := hL.trans (congrArg (fun S => vaultH v S :: _) aw_lock2S)
  subst hr hL
  repeat (first | (refine GQ.y ?_; refine Q.y ?_) | refine Q.go ?_ | (refine GQ.g ?_; refine Q.gq ?_) | (refine GQ.s ?_; refine Q.st ?_) | (refine GQ.g ?_; refine Q.gd ?_) | refine Q.ct rfl ?_ | refine Q.cf rfl ?_ | (refine GQ.a ?_; refine Q.al (fun b1 => ?_)))
  refine S.cv v rfl (Apply_spec v _ 1 7 3 _ aw_wf (by decide) (by decide)) ?_
  rintro r L' ⟨hr, hL⟩
  replace hr := hr.trans (congrArg (Value.int .i64) aw_a3)
  rw [applyS_ne (by rw [aw_a3]; decide)] at hL
  subst hr hL
  repeat (first | (refine GQ.y ?_; refine Q.y ?_) | refine Q.go ?_ | (refine GQ.g ?_; refine Q.gq ?_) | (refine GQ.s ?_; refine Q.st ?_) | (refine GQ.g ?_; refine Q.gd ?_) | refine Q.ct rfl ?_ | refine Q.cf rfl ?_ | (refine GQ.a ?_; refine Q.al (fun b1 => ?_)))
  refine S.cv v rfl (Apply_spec v _ 1 7 4 _ aw_wf (by decide) (by decide)) ?_
  rintro r L' ⟨hr, hL⟩
  replace hr := hr.trans (congrArg (Value.int .i64) aw_a4)
  subst hr hL
  repeat (first | (refine GQ.y ?_; refine Q.y ?_) | refine Q.go ?_ | (refine GQ.g ?_; refine Q.gq ?_) | (refine GQ.s ?_; refine Q.st ?_) | (refine GQ.g ?_; refine Q.gd ?_) | refine Q.ct rfl ?_ | refine Q.cf rfl ?_ | (refine GQ.a ?_; refine Q.al (fun b1 => ?_)))
  exact N.r1 (RV.tmp rfl RV.nil) (by repeat (first | exact Ent.refl _ | exact Ent.nil | refine Ent.pick ?_ | refine Ent.nilS ?_ | refine Ent.nilM ?_ | refine Ent.drop ?_)) ⟨rfl, rfl⟩
end Go.Proofs.Ytieejgbjgcbbjaa
