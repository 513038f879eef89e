/- What is asked of vaults: Last, SameIntents, SameEntries, intents, entries. No condition. -/
import Derived.Test.YtieejgbjgcbbjaaGreatAskD
set_option linter.unusedVariables false
set_option linter.unusedSimpArgs false
namespace Go.Proofs.YtieejgbjgcbbjaaGreat
open Go Go.SX
attribute [local irreducible] swp opsS thenS blockS retS CallsS St Ent YieldS anyS drawS
theorem abs_all {α : Type} (f : α → HP) (g : (Nat → Option Obj) → α → Prop) (mono : ∀ M M' x, leM M M' → g M x → g M' x) (one : ∀ (x : α) (L L0 : List HP) (M : Nat → Option Obj) [PickM L M L0], Ent (f x :: L) (exH (fun M' => allH [pureH (leM M M' ∧ g M' x), roM M']) :: L0)) :
    ∀ (xs : List α) {L L0 : List HP} {M : Nat → Option Obj} [hp : PickM L M L0], Ent (allH (xs.map f) :: L) (exH (fun M' => allH [pureH (leM M M' ∧ ∀ x ∈ xs, g M' x), roM M']) :: L0) := by
  intro xs
  induction xs with
  | nil =>
    intro L L0 M hp
    refine Ent.drop (hp.ent.trans ?_)
    refine Ent.trans ?_ (Ent.shut_ex M)
    refine Ent.trans ?_ Ent.shut_all
    exact Ent.shut_pure ⟨leM.refl M, fun o ho => by cases ho⟩
  | cons o us ih =>
    intro L L0 M hp
    refine (allH_out (A := f o) (l := us.map f)).trans ?_
    have hp2 : PickM (allH (us.map f) :: L) M (allH (us.map f) :: L0) := inferInstance
    refine (one o _ _ M).trans ?_
    refine Ent.ex fun M1 => Ent.open_all.trans (Ent.pure fun hs => ?_)
    refine Ent.trans (Ent.perm (.swap _ _ _)) ?_
    refine (ih (M := M1) (L := roM M1 :: L0)).trans ?_
    refine Ent.ex fun M2 => Ent.open_all.trans (Ent.pure fun hs2 => ?_)
    refine Ent.trans ?_ (Ent.shut_ex M2)
    refine Ent.trans ?_ Ent.shut_all
    refine Ent.shut_pure ⟨hs.1.trans hs2.1, fun u hu => ?_⟩
    rcases List.mem_cons.1 hu with rfl | hu
    · exact mono _ _ _ hs2.1 hs.2
    · exact hs2.2 u hu
theorem pair_abs {t sz m c : Nat} {a : Option Addr} {cs : List Value} {us : List OV} {L L0 : List HP} {M : Nat → Option Obj} [hp : PickM L M L0] : Ent (allH [slO t sz a m c cs, vecsH us] :: L) (exH (fun M' => allH [pureH (leM M M' ∧ SlM M' a m sz cs ∧ okR M' us), roM M']) :: L0) := by
  refine pair_out.trans ?_
  have hp2 : PickM (vecsH us :: L) M (vecsH us :: L0) := inferInstance
  refine Ent.absorb.trans ?_
  refine Ent.ex fun M1 => Ent.open_all.trans (Ent.pure fun hs => ?_)
  refine Ent.trans (Ent.perm (.swap _ _ _)) ?_
  refine (vecs_abs (M := M1) (L := roM M1 :: L0) us).trans ?_
  refine Ent.ex fun M2 => Ent.open_all.trans (Ent.pure fun hs2 => ?_)
  refine Ent.trans ?_ (Ent.shut_ex M2)
  refine Ent.trans ?_ Ent.shut_all
  exact Ent.shut_pure ⟨hs.1.trans hs2.1, hs.2.mono hs2.1, hs2.2⟩
theorem its_abs (es : List IV) {L L0 : List HP} {M : Nat → Option Obj} [hp : PickM L M L0] : Ent (itsH es :: L) (exH (fun M' => allH [pureH (leM M M' ∧ ∀ e ∈ es, okI M' e), roM M']) :: L0) :=
  abs_all opsH okI (fun M M' x hl h => h.mono hl) (fun x L L0 M _ => pair_abs) es
theorem ent_abs (es : List EV) {L L0 : List HP} {M : Nat → Option Obj} [hp : PickM L M L0] : Ent (entH es :: L) (exH (fun M' => allH [pureH (leM M M' ∧ ∀ e ∈ es, okE M' e), roM M']) :: L0) :=
  abs_all verH okE (fun M M' x hl h => h.mono hl) (fun x L L0 M _ => pair_abs) es
theorem opsS_absI (es : List IV) {n : Nat} {ops rest : List Oper} {Q : Post} {f : Env} {L L0 L1 : List HP} {M : Nat → Option Obj} [h : Pick (itsH es) L L0] [h1 : PickM L0 M L1] (hk : ∀ M', leM M M' → (∀ e ∈ es, okI M' e) → opsS Tryz.prog n ops rest Q f (roM M' :: L1)) : opsS Tryz.prog n ops rest Q f L :=
  opsS_ent (h.ent.trans (its_abs es)) (opsS_ex fun M' => opsS_all (opsS_pure fun hh => hk M' hh.1 hh.2))
theorem opsS_absE (es : List EV) {n : Nat} {ops rest : List Oper} {Q : Post} {f : Env} {L L0 L1 : List HP} {M : Nat → Option Obj} [h : Pick (entH es) L L0] [h1 : PickM L0 M L1] (hk : ∀ M', leM M M' → (∀ e ∈ es, okE M' e) → opsS Tryz.prog n ops rest Q f (roM M' :: L1)) : opsS Tryz.prog n ops rest Q f L :=
  opsS_ent (h.ent.trans (ent_abs es)) (opsS_ex fun M' => opsS_all (opsS_pure fun hh => hk M' hh.1 hh.2))
set_option maxHeartbeats 1000000 in
theorem LastP_spec (v : Nat) (st : VS) (n : Nat) (L : List HP) (hw : WF st n) (hn : n ≤ 10000) :
    CallsS Tryz.prog 38 [ptrV v] (vaultH v st :: L)
      (fun r L' => (∃ m : Int, r = .int .u64 m ∧ (∀ c ∈ st.ch, lastS c.2 ≤ m) ∧ (m = 0 ∨ ∃ c ∈ st.ch, lastS c.2 = m) ∧ 0 ≤ m) ∧ L' = vaultH v st :: L) := by
  refine calls_vault fun mc mi M cs is hok => ?_
  refine CallsS.of_body Tryz.func38 rfl rfl rfl ?_
  repeat (first | (refine GQ.y ?_; refine Q.y ?_) | refine Q.go ?_ | (refine GQ.g ?_; refine Q.gq ?_) | (refine GQ.s ?_; refine Q.st ?_) | (refine GQ.g ?_; refine Q.gd ?_) | refine Q.ct rfl ?_ | refine Q.cf rfl ?_ | (refine GQ.a ?_; refine Q.al (fun b1 => ?_)))
  refine S.rg rfl (fun r => ?_)
  repeat (first | (refine GQ.y ?_; refine Q.y ?_) | refine Q.go ?_ | (refine GQ.g ?_; refine Q.gq ?_) | (refine GQ.s ?_; refine Q.st ?_) | (refine GQ.g ?_; refine Q.gd ?_) | refine Q.ct rfl ?_ | refine Q.cf rfl ?_ | (refine GQ.a ?_; refine Q.al (fun b1 => ?_)))
  refine swp_cutB (σ := Int) (fun m => [(3, .int .u64 m)]) (fun _ => vP v mc mi st.dim st.mark :: vC mc cs :: vI mi is :: chsH M cs :: roM M :: L) (fun m => (∀ c ∈ cs, lastS c.2.2 ≤ m) ∧ (m = 0 ∨ ∃ c ∈ cs, lastS c.2.2 = m) ∧ 0 ≤ m) ?_ ?_
  · refine swp_loop (σ := List Nat × Int) (fun u => [(12, .pointer (some ⟨r, 0, none⟩)), (3, .int .u64 u.2)])
      (fun u => vP v mc mi st.dim st.mark :: itO U64 ptrV mc r (cs.map fun c => (c.1, c.2.1)) u.1 :: vI mi is :: chsH M cs :: roM M :: L)
      (fun u => u.1.Nodup ∧ (∀ i ∈ u.1, i < cs.length) ∧ (∀ i ∈ u.1, ∀ x, cs[i]? = some x → lastS x.2.2 ≤ u.2) ∧ (u.2 = 0 ∨ ∃ c ∈ cs, lastS c.2.2 = u.2) ∧ 0 ≤ u.2) (fun u => cs.length - u.1.length) ([], 0) ⟨rfl, rfl, trivial⟩ (by repeat (first | exact Ent.refl _ | exact Ent.nil | refine Ent.pick ?_ | refine Ent.nilS ?_ | refine Ent.nilM ?_ | refine Ent.drop ?_)) ⟨by simp, by simp, by simp, .inl rfl, by simp⟩ ?_
    rintro ⟨vis, m⟩ ⟨hv1, hv2, hv3, hv4, hv5⟩
    dsimp only at hv1 hv2 hv3 hv4 hv5 ⊢
    repeat (first | (refine GQ.y ?_; refine Q.y ?_) | refine Q.go ?_ | (refine GQ.g ?_; refine Q.gq ?_) | (refine GQ.s ?_; refine Q.st ?_) | (refine GQ.g ?_; refine Q.gd ?_) | refine Q.ct rfl ?_ | refine Q.cf rfl ?_ | (refine GQ.a ?_; refine Q.al (fun b1 => ?_)))
    refine S.nx rfl (fun hend => ?_) (fun i p hp hi => ?_)
    · rw [List.length_map] at hend
      repeat (first | (refine GQ.y ?_; refine Q.y ?_) | refine Q.go ?_ | (refine GQ.g ?_; refine Q.gq ?_) | (refine GQ.s ?_; refine Q.st ?_) | (refine GQ.g ?_; refine Q.gd ?_) | refine Q.ct rfl ?_ | refine Q.cf rfl ?_ | (refine GQ.a ?_; refine Q.al (fun b1 => ?_)))
      refine ⟨m, ⟨rfl, trivial⟩, Ent.cons itO_map, fun c hc => ?_, hv4, hv5⟩
      obtain ⟨i, hi⟩ := List.mem_iff_getElem?.1 hc
      exact hv3 i (hend i (List.getElem?_eq_some_iff.1 hi).1) c hi
    have hx : ∃ x, cs[i]? = some x ∧ p = (x.1, x.2.1) := by
      rw [List.getElem?_map] at hp
      cases hx : cs[i]? with
      | none => rw [hx] at hp; cases hp
      | some x => rw [hx] at hp; exact ⟨x, rfl, (Option.some.inj hp).symm⟩
    obtain ⟨⟨id, b2, vs⟩, hx, rfl⟩ := hx
    have hmc : (id, b2, vs) ∈ cs := List.mem_of_getElem? hx
    obtain ⟨m1, m2, m3⟩ := vis_more hv1 hv2 (List.getElem?_eq_some_iff.1 hx).1 hi
    obtain ⟨R, hR⟩ := chs_mem (M := M) hmc
    have hco := hw.co (id, vs) (by rw [← hok.ch]; exact List.mem_map_of_mem (f := fun c : CR => (c.1, c.2.2)) hmc)
    repeat (first | (refine GQ.y ?_; refine Q.y ?_) | refine Q.go ?_ | (refine GQ.g ?_; refine Q.gq ?_) | (refine GQ.s ?_; refine Q.st ?_) | (refine GQ.a ?_; refine Q.al (fun b1 => ?_)))
    refine S.y (Y.en rfl hp) ?_
    repeat (first | (refine GQ.y ?_; refine Q.y ?_) | refine Q.go ?_ | (refine GQ.g ?_; refine Q.gq ?_) | (refine GQ.s ?_; refine Q.st ?_) | (refine GQ.g ?_; refine Q.gd ?_) | refine Q.ct rfl ?_ | refine Q.cf rfl ?_ | (refine GQ.a ?_; refine Q.al (fun b1 => ?_)))
    refine opsS_ent (L' := chainH M b2 vs :: R :: vP v mc mi st.dim st.mark :: itO U64 ptrV mc r (cs.map fun c => (c.1, c.2.1)) (vis ++ [i]) :: vI mi is :: roM M :: L) ?_ ?_
    · refine Ent.trans (?_ : Ent _ (chsH M cs :: vP v mc mi st.dim st.mark :: itO U64 ptrV mc r (cs.map fun c => (c.1, c.2.1)) (vis ++ [i]) :: vI mi is :: roM M :: L)) ?_
      · repeat (first | exact Ent.refl _ | exact Ent.nil | refine Ent.pick ?_ | refine Ent.nilS ?_ | refine Ent.nilM ?_ | refine Ent.drop ?_)
      exact (hR _).1
    refine S.cr rfl (ChLast_spec M b2 vs _ (by have := hco.2.1; dsimp only at this; omega)) ?_
    rintro _ _ ⟨rfl, rfl⟩
    repeat (first | (refine GQ.y ?_; refine Q.y ?_) | refine Q.go ?_ | (refine GQ.g ?_; refine Q.gq ?_) | (refine GQ.s ?_; refine Q.st ?_) | (refine GQ.g ?_; refine Q.gd ?_) | refine Q.ct rfl ?_ | refine Q.cf rfl ?_ | (refine GQ.a ?_; refine Q.al (fun b1 => ?_)))
    refine ⟨(vis ++ [i], max m (lastS vs)), ⟨rfl, rfl, trivial⟩, ?_, ⟨m1, m2, fun j hj y hy => ?_, ?_, by dsimp only; omega⟩, by simp; omega⟩
    · dsimp only
      refine Ent.trans ((hR _).2) ?_
      repeat (first | exact Ent.refl _ | exact Ent.nil | refine Ent.pick ?_ | refine Ent.nilS ?_ | refine Ent.nilM ?_ | refine Ent.drop ?_)
    · dsimp only
      rcases List.mem_append.1 hj with hj | hj
      · have := hv3 j hj y hy; omega
      · obtain rfl := List.mem_singleton.1 hj
        rw [hx] at hy
        obtain rfl := Option.some.inj hy
        dsimp only; omega
    · dsimp only
      by_cases hm : lastS vs ≤ m
      · rw [show max m (lastS vs) = m by omega]; exact hv4
      · rw [show max m (lastS vs) = lastS vs by omega]; exact .inr ⟨_, hmc, rfl⟩
  rintro m ⟨h1, h2, h3⟩
  repeat (first | (refine GQ.y ?_; refine Q.y ?_) | refine Q.go ?_ | (refine GQ.g ?_; refine Q.gq ?_) | (refine GQ.s ?_; refine Q.st ?_) | (refine GQ.g ?_; refine Q.gd ?_) | refine Q.ct rfl ?_ | refine Q.cf rfl ?_ | (refine GQ.a ?_; refine Q.al (fun b1 => ?_)))
  refine N.r1 (RV.tmp rfl RV.nil) (vault_shut hok) ⟨⟨m, rfl, fun c hc => ?_, ?_, h3⟩, rfl⟩
  · rw [← hok.ch] at hc
    obtain ⟨u, hu, rfl⟩ := List.mem_map.1 hc
    exact h1 u hu
  · rcases h2 with h2 | ⟨c, hc, h2⟩
    · exact .inl h2
    · exact .inr ⟨(c.1, c.2.2), by rw [← hok.ch]; exact List.mem_map_of_mem (f := fun c : CR => (c.1, c.2.2)) hc, h2⟩
theorem flat_len3 : ∀ (l : List OV), (l.flatMap cH).length = l.length * 3
  | [] => rfl
  | o :: l => by rw [List.flatMap_cons, List.length_append, flat_len3 l, List.length_cons]; simp; omega
theorem at_len {st : VS} {n : Nat} (hw : WF st n) (id s : Int) : (atV (chV st.ch id) s).length ≤ 8 := by
  unfold atV
  split
  · simp
  cases hz : (chV st.ch id)[aftN (chV st.ch id) s - 1]? with
  | none => simp
  | some v =>
    have hm := List.mem_of_getElem? hz
    unfold chV at hm
    cases hy : lkL st.ch id with
    | none => rw [hy] at hm; cases hm
    | some vs =>
      rw [hy] at hm
      exact (hw.co _ (lk_memL hy)).2.2 v hm
theorem scan_vec {st : VS} {n : Nat} (hw : WF st n) (s : Int) (x : Int × List Int) (hx : x ∈ scanV st s) : x.2.length ≤ 8 := by
  unfold scanV at hx
  split at hx
  · cases hx
  obtain ⟨id, hid, hm⟩ := List.mem_flatMap.1 hx
  unfold hitV at hm
  split at hm
  · obtain rfl := List.mem_singleton.1 hm
    exact at_len hw id s
  · cases hm
theorem last_uniq {ch : List (Int × VL)} {m k : Int} (h1 : ∀ c ∈ ch, lastS c.2 ≤ m) (h2 : m = 0 ∨ ∃ c ∈ ch, lastS c.2 = m) (h3 : 0 ≤ m) (k1 : ∀ c ∈ ch, lastS c.2 ≤ k) (k2 : k = 0 ∨ ∃ c ∈ ch, lastS c.2 = k) (k3 : 0 ≤ k) : m = k := by
  rcases h2 with h2 | ⟨c, hc, h2⟩ <;> rcases k2 with k2 | ⟨d, hd, k2⟩
  · omega
  · have := h1 d hd; omega
  · have := k1 c hc; omega
  · have := h1 d hd; have := k1 c hc; omega
theorem RLast_spec (p : Nat) (st : VS) (n : Nat) (M : Nat → Option Obj) (a : Option Addr) (es : List EV) (c : Nat) (a' : Option Addr) (is : List IV) (c' : Nat) (A : List HP) (hok : ROK M st a c es a' c' is) (hw : WF st n) (hn : n ≤ 10000) :
    CallsS Tryz.prog 39 [ptrV p] (rP p st.dim a es c a' is c' st.mark :: roM M :: A) (fun r L' => (∃ m : Int, r = .int .u64 m ∧ (∀ c ∈ st.ch, lastS c.2 ≤ m) ∧ (m = 0 ∨ ∃ c ∈ st.ch, lastS c.2 = m) ∧ 0 ≤ m) ∧ L' = rP p st.dim a es c a' is c' st.mark :: roM M :: A) := by
  have hel : es.length ≤ 16 * n := by rw [hok.len.2]; exact hw.cl
  refine CallsS.of_body Tryz.func39 rfl rfl rfl ?_
  repeat (first | (refine GQ.y ?_; refine Q.y ?_) | refine Q.go ?_ | (refine GQ.g ?_; refine Q.gq ?_) | (refine GQ.s ?_; refine Q.st ?_) | (refine GQ.g ?_; refine Q.gd ?_) | refine Q.ct rfl ?_ | refine Q.cf rfl ?_ | (refine GQ.a ?_; refine Q.al (fun b1 => ?_)))
  refine swp_cutB (σ := Int) (fun m => [(3, .int .u64 m)]) (fun _ => rP p st.dim a es c a' is c' st.mark :: roM M :: A) (fun m => (∀ e ∈ es, lastS (e.vs.map OV.abs) ≤ m) ∧ (m = 0 ∨ ∃ e ∈ es, lastS (e.vs.map OV.abs) = m) ∧ 0 ≤ m) ?_ ?_
  · refine swp_loop (σ := Nat × Int) (fun u => [(11, .slice a es.length c), (12, .int .i64 es.length), (3, .int .u64 u.2), (13, .int .i64 u.1)]) (fun _ => rP p st.dim a es c a' is c' st.mark :: roM M :: A)
      (fun u => u.1 ≤ es.length ∧ (∀ e ∈ es.take u.1, lastS (e.vs.map OV.abs) ≤ u.2) ∧ (u.2 = 0 ∨ ∃ e ∈ es, lastS (e.vs.map OV.abs) = u.2) ∧ 0 ≤ u.2) (fun u => es.length - u.1) (0, 0) ⟨rfl, rfl, rfl, rfl, trivial⟩ (Ent.refl _) ⟨by omega, by simp, .inl rfl, by simp⟩ ?_
    rintro ⟨k, m⟩ ⟨hk, h1, h2, h3⟩
    dsimp only at hk h1 h2 h3 ⊢
    by_cases hlt : k < es.length
    · obtain ⟨e, he⟩ := mem_get hlt
      have hme : e ∈ es := List.mem_of_getElem? he
      have h4 := hok.esl hw hme
      have hrs : RdS (rP p st.dim a es c a' is c' st.mark :: roM M :: A) a es.length 2 (es.flatMap EV.cells) := hok.sE.rd
      obtain ⟨b, oo, hia, hr⟩ := RdS.elem (g := EV.cells) (fun _ => rfl) hrs he rfl
      clear hrs
      rw [hia] at hr ⊢
      repeat (first | (refine GQ.y ?_; refine Q.y ?_) | refine Q.go ?_ | (refine GQ.g ?_; refine Q.gq ?_) | (refine GQ.s ?_; refine Q.st ?_) | (refine GQ.g ?_; refine Q.gd ?_) | refine Q.ct rfl ?_ | refine Q.cf rfl ?_ | (refine GQ.a ?_; refine Q.al (fun b1 => ?_)))
      refine S.cr rfl (Rlast_spec e.a e.c e.vs _ (hok.oe e hme).1.rd (by omega)) ?_
      rintro _ _ ⟨rfl, rfl⟩
      repeat (first | (refine GQ.y ?_; refine Q.y ?_) | refine Q.go ?_ | (refine GQ.g ?_; refine Q.gq ?_) | (refine GQ.s ?_; refine Q.st ?_) | (refine GQ.g ?_; refine Q.gd ?_) | refine Q.ct rfl ?_ | refine Q.cf rfl ?_ | (refine GQ.a ?_; refine Q.al (fun b1 => ?_)))
      refine ⟨(k + 1, max m (lastS (e.vs.map OV.abs))), ⟨rfl, rfl, rfl, rfl, trivial⟩, by repeat (first | exact Ent.refl _ | exact Ent.nil | refine Ent.pick ?_ | refine Ent.nilS ?_ | refine Ent.nilM ?_ | refine Ent.drop ?_), ⟨by dsimp only; omega, fun f hf => ?_, ?_, by dsimp only; omega⟩, by dsimp only; omega⟩
      · dsimp only at hf ⊢
        rw [take_snoc he] at hf
        rcases List.mem_append.1 hf with hf | hf
        · have := h1 f hf; omega
        · obtain rfl := List.mem_singleton.1 hf
          omega
      · dsimp only
        by_cases hm : lastS (e.vs.map OV.abs) ≤ m
        · rw [show max m (lastS (e.vs.map OV.abs)) = m by omega]; exact h2
        · rw [show max m (lastS (e.vs.map OV.abs)) = lastS (e.vs.map OV.abs) by omega]; exact .inr ⟨_, hme, rfl⟩
    · have hke : k = es.length := by omega
      subst hke
      rw [List.take_length] at h1
      repeat (first | (refine GQ.y ?_; refine Q.y ?_) | refine Q.go ?_ | (refine GQ.g ?_; refine Q.gq ?_) | (refine GQ.s ?_; refine Q.st ?_) | (refine GQ.g ?_; refine Q.gd ?_) | refine Q.ct rfl ?_ | refine Q.cf rfl ?_ | (refine GQ.a ?_; refine Q.al (fun b1 => ?_)))
      exact ⟨m, ⟨rfl, trivial⟩, Ent.refl _, h1, h2, h3⟩
  rintro m ⟨h1, h2, h3⟩
  repeat (first | (refine GQ.y ?_; refine Q.y ?_) | refine Q.go ?_ | (refine GQ.g ?_; refine Q.gq ?_) | (refine GQ.s ?_; refine Q.st ?_) | (refine GQ.g ?_; refine Q.gd ?_) | refine Q.ct rfl ?_ | refine Q.cf rfl ?_ | (refine GQ.a ?_; refine Q.al (fun b1 => ?_)))
  refine N.r1 (RV.tmp rfl RV.nil) (Ent.refl _) ⟨⟨m, rfl, fun u hu => ?_, ?_, h3⟩, rfl⟩
  · obtain ⟨e, he, rfl⟩ := List.mem_map.1 (hok.ch.mem_iff.2 hu)
    exact h1 e he
  · rcases h2 with h2 | ⟨e, he, h2⟩
    · exact .inl h2
    · exact .inr ⟨e.abs, hok.ch.mem_iff.1 (List.mem_map_of_mem he), h2⟩
set_option maxHeartbeats 1000000 in
theorem Same7_spec (a : Option Addr) (c : Nat) (xs : List OV) (a' : Option Addr) (c' : Nat) (ys : List OV) (A : List HP) (h : RdO A a xs) (h' : RdO A a' ys) (hn : xs.length ≤ 1000000) (hv : ∀ o ∈ xs, o.vec.length ≤ 1000000) (he : xs.map OV.abs = ys.map OV.abs) :
    CallsS Tryz.prog 67 [.slice a xs.length c, .slice a' ys.length c'] A (fun v L' => v = .bool true ∧ L' = A) := by
  have hl : ys.length = xs.length := by
    have := congrArg List.length he
    simp at this; omega
  refine CallsS.of_body Tryz.func67 rfl rfl rfl ?_
  repeat (first | (refine GQ.y ?_; refine Q.y ?_) | refine Q.go ?_ | (refine GQ.g ?_; refine Q.gq ?_) | (refine GQ.s ?_; refine Q.st ?_) | (refine GQ.g ?_; refine Q.gd ?_) | refine Q.ct rfl ?_ | refine Q.cf rfl ?_ | (refine GQ.a ?_; refine Q.al (fun b1 => ?_)))
  refine swp_loop (σ := Nat) (fun k => [(0, .slice a xs.length c), (1, .slice a' ys.length c'), (12, .int .i64 xs.length), (13, .int .i64 k)]) (fun _ => A)
    (fun k => k ≤ xs.length) (fun k => xs.length - k) 0 ⟨rfl, rfl, rfl, rfl, trivial⟩ (Ent.refl _) (by omega) ?_
  intro k hk
  by_cases hlt : k < xs.length
  · obtain ⟨x, hx⟩ := mem_get hlt
    obtain ⟨y, hy⟩ := mem_get (l := ys) (k := k) (by omega)
    have hxy : x.abs = y.abs := by
      have h1 : (xs.map OV.abs)[k]? = some x.abs := by simp [hx]
      have h2 : (ys.map OV.abs)[k]? = some y.abs := by simp [hy]
      rw [he, h2] at h1
      exact (Option.some.inj h1).symm
    have hid : x.id = y.id := congrArg Prod.fst hxy
    have hvc : x.vec = y.vec := congrArg Prod.snd hxy
    have hmx : x ∈ xs := List.mem_of_getElem? hx
    have hmy : y ∈ ys := List.mem_of_getElem? hy
    have hrx := h.2 x hmx
    have hry := h'.2 y hmy
    have hvx := hv x hmx
    obtain ⟨b, o, rfl, hr⟩ := RdS.elem (g := OV.cells) (l := xs) (fun _ => rfl) h.1 hx rfl
    obtain ⟨b', o', rfl, hr'⟩ := RdS.elem (g := OV.cells) (l := ys) (fun _ => rfl) h'.1 hy rfl
    clear hx hy hmx hmy hxy he
    obtain ⟨xi, xa, xc, xv⟩ := x
    obtain ⟨yi, ya, yc, yv⟩ := y
    dsimp only at hid hvc hrx hry hvx
    subst hid hvc
    replace hr : RdC A b (o + k * 2) [.int .u64 xi, .slice xa xv.length xc] := hr
    replace hr' : RdC A b' (o' + k * 2) [.int .u64 xi, .slice ya xv.length yc] := hr'
    repeat (first | (refine GQ.y ?_; refine Q.y ?_) | refine Q.go ?_ | (refine GQ.g ?_; refine Q.gq ?_) | (refine GQ.s ?_; refine Q.st ?_) | (refine GQ.g ?_; refine Q.gd ?_) | refine Q.ct rfl ?_ | refine Q.cf rfl ?_ | (refine GQ.a ?_; refine Q.al (fun b1 => ?_)))
    refine D.start [22] [22] [0, 1, 2, 3, 4, 5, 6, 7, 8, 9, 10, 11, 12, 13, 14, 15, 16, 17, 18, 19, 20, 21, 22, 23, 24] _ [] rfl (by kernel_rfl) rfl (by kernel_rfl) NoPanic.no (Ent.refl _) ?_
    repeat (first | refine Q.dyn rfl rfl rfl ?_ | refine Q.dyl rfl rfl rfl ?_ | refine D.y rfl rfl rfl (by kernel_rfl) (by first | exact (Y.ldRj rfl (by first | assumption | exact RdC.sub (by assumption)) rfl) | exact Y.guard rfl (Y.ldRj rfl (by first | assumption | exact RdC.sub (by assumption)) rfl)) ?_ | refine D.endA ?_ | refine Q.dp rfl rfl rfl ?_ | refine Q.dy rfl rfl rfl ?_ | refine D.end_ ?_ | refine Q.endH ?_ | (refine D.e rfl rfl rfl ?_; (first | refine S.gskip1 rfl ?_ | refine S.gskip rfl ?_ | refine S.y (Y.gskipU rfl) ?_); refine opsS_nil ?_; refine N.tn ?_) | refine Q.dT rfl rfl rfl ?_ | refine Q.dF rfl rfl rfl ?_ | (refine D.e rfl rfl rfl ?_; (first | (refine GQ.a ?_; refine Q.al (fun b1 => ?_)) | (refine GQ.s ?_; refine Q.st ?_)); refine opsS_nil ?_; refine N.tn ?_))
    refine Q.dF rfl rfl rfl ?_ (by simp)
    repeat (first | refine Q.dyn rfl rfl rfl ?_ | refine Q.dyl rfl rfl rfl ?_ | refine D.y rfl rfl rfl (by kernel_rfl) (by first | exact (Y.ldRj rfl (by first | assumption | exact RdC.sub (by assumption)) rfl) | exact Y.guard rfl (Y.ldRj rfl (by first | assumption | exact RdC.sub (by assumption)) rfl)) ?_ | refine D.endA ?_ | refine Q.dp rfl rfl rfl ?_ | refine Q.dy rfl rfl rfl ?_ | refine D.end_ ?_ | refine Q.endH ?_ | (refine D.e rfl rfl rfl ?_; (first | refine S.gskip1 rfl ?_ | refine S.gskip rfl ?_ | refine S.y (Y.gskipU rfl) ?_); refine opsS_nil ?_; refine N.tn ?_) | refine Q.dT rfl rfl rfl ?_ | refine Q.dF rfl rfl rfl ?_ | (refine D.e rfl rfl rfl ?_; (first | (refine GQ.a ?_; refine Q.al (fun b1 => ?_)) | (refine GQ.s ?_; refine Q.st ?_)); refine opsS_nil ?_; refine N.tn ?_))
    refine Q.dc rfl rfl rfl rfl ?_
    rw [List.append_nil]
    refine S.guard rfl ?_
    refine S.cr rfl (SameVec_spec xa xc xv ya yc xv _ hrx.sub hry.sub (by omega)) ?_
    rintro _ _ ⟨rfl, rfl⟩
    repeat (first | (refine GQ.y ?_; refine Q.y ?_) | refine Q.go ?_ | (refine GQ.g ?_; refine Q.gq ?_) | (refine GQ.s ?_; refine Q.st ?_) | (refine GQ.g ?_; refine Q.gd ?_) | refine Q.ct rfl ?_ | refine Q.cf rfl ?_ | (refine GQ.a ?_; refine Q.al (fun b1 => ?_)))
    repeat (first | refine Q.dyn rfl rfl rfl ?_ | refine Q.dyl rfl rfl rfl ?_ | refine D.y rfl rfl rfl (by kernel_rfl) (by first | exact (Y.ldRj rfl (by first | assumption | exact RdC.sub (by assumption)) rfl) | exact Y.guard rfl (Y.ldRj rfl (by first | assumption | exact RdC.sub (by assumption)) rfl)) ?_ | refine D.endA ?_ | refine Q.dp rfl rfl rfl ?_ | refine Q.dy rfl rfl rfl ?_ | refine D.end_ ?_ | refine Q.endH ?_ | (refine D.e rfl rfl rfl ?_; (first | refine S.gskip1 rfl ?_ | refine S.gskip rfl ?_ | refine S.y (Y.gskipU rfl) ?_); refine opsS_nil ?_; refine N.tn ?_) | refine Q.dT rfl rfl rfl ?_ | refine Q.dF rfl rfl rfl ?_ | (refine D.e rfl rfl rfl ?_; (first | (refine GQ.a ?_; refine Q.al (fun b1 => ?_)) | (refine GQ.s ?_; refine Q.st ?_)); refine opsS_nil ?_; refine N.tn ?_))
    repeat (first | (refine GQ.y ?_; refine Q.y ?_) | refine Q.go ?_ | (refine GQ.g ?_; refine Q.gq ?_) | (refine GQ.s ?_; refine Q.st ?_) | (refine GQ.g ?_; refine Q.gd ?_) | refine Q.ct rfl ?_ | refine Q.cf rfl ?_ | (refine GQ.a ?_; refine Q.al (fun b1 => ?_)))
    exact ⟨k + 1, ⟨rfl, rfl, rfl, rfl, trivial⟩, Ent.refl _, by omega, by omega⟩
  · have hke : k = xs.length := by omega
    subst hke
    repeat (first | (refine GQ.y ?_; refine Q.y ?_) | refine Q.go ?_ | (refine GQ.g ?_; refine Q.gq ?_) | (refine GQ.s ?_; refine Q.st ?_) | (refine GQ.g ?_; refine Q.gd ?_) | refine Q.ct rfl ?_ | refine Q.cf rfl ?_ | (refine GQ.a ?_; refine Q.al (fun b1 => ?_)))
    exact N.r1 (RV.tmp rfl RV.nil) (Ent.refl _) ⟨rfl, rfl⟩
set_option maxHeartbeats 1000000 in
theorem SameIntents_spec (a : Option Addr) (c : Nat) (xs : List IV) (a' : Option Addr) (c' : Nat) (ys : List IV) (A : List HP) (h : RdS A a xs.length 3 (xs.flatMap IV.cells) ∧ ∀ o ∈ xs, RdO A o.a o.ops) (h' : RdS A a' ys.length 3 (ys.flatMap IV.cells) ∧ ∀ o ∈ ys, RdO A o.a o.ops) (hn : xs.length ≤ 1000000) (hv : ∀ o ∈ xs, o.ops.length ≤ 1000000 ∧ ∀ u ∈ o.ops, u.vec.length ≤ 1000000) (he : xs.map IV.abs = ys.map IV.abs) :
    CallsS Tryz.prog 40 [.slice a xs.length c, .slice a' ys.length c'] A (fun v L' => v = .bool true ∧ L' = A) := by
  have hl : ys.length = xs.length := by
    have := congrArg List.length he
    simp at this; omega
  refine CallsS.of_body Tryz.func40 rfl rfl rfl ?_
  repeat (first | (refine GQ.y ?_; refine Q.y ?_) | refine Q.go ?_ | (refine GQ.g ?_; refine Q.gq ?_) | (refine GQ.s ?_; refine Q.st ?_) | (refine GQ.g ?_; refine Q.gd ?_) | refine Q.ct rfl ?_ | refine Q.cf rfl ?_ | (refine GQ.a ?_; refine Q.al (fun b1 => ?_)))
  refine swp_loop (σ := Nat) (fun k => [(0, .slice a xs.length c), (1, .slice a' ys.length c'), (12, .int .i64 xs.length), (13, .int .i64 k)]) (fun _ => A)
    (fun k => k ≤ xs.length) (fun k => xs.length - k) 0 ⟨rfl, rfl, rfl, rfl, trivial⟩ (Ent.refl _) (by omega) ?_
  intro k hk
  by_cases hlt : k < xs.length
  · obtain ⟨x, hx⟩ := mem_get hlt
    obtain ⟨y, hy⟩ := mem_get (l := ys) (k := k) (by omega)
    have hxy : x.abs = y.abs := by
      have h1 : (xs.map IV.abs)[k]? = some x.abs := by simp [hx]
      have h2 : (ys.map IV.abs)[k]? = some y.abs := by simp [hy]
      rw [he, h2] at h1
      exact (Option.some.inj h1).symm
    have hid : x.txn = y.txn := congrArg Prod.fst hxy
    have haf : x.after = y.after := congrArg (fun u => u.2.1) hxy
    have hvc : x.ops.map OV.abs = y.ops.map OV.abs := congrArg (fun u => u.2.2) hxy
    have hmx : x ∈ xs := List.mem_of_getElem? hx
    have hmy : y ∈ ys := List.mem_of_getElem? hy
    have hrx := h.2 x hmx
    have hry := h'.2 y hmy
    have hvx := hv x hmx
    obtain ⟨b, o, rfl, hr⟩ := RdS.elem (g := IV.cells) (l := xs) (fun _ => rfl) h.1 hx rfl
    obtain ⟨b', o', rfl, hr'⟩ := RdS.elem (g := IV.cells) (l := ys) (fun _ => rfl) h'.1 hy rfl
    clear hx hy hmx hmy hxy he
    obtain ⟨xi, xf, xa, xc, xv⟩ := x
    obtain ⟨yi, yf, ya, yc, yv⟩ := y
    dsimp only at hid haf hvc hrx hry hvx
    subst hid haf
    replace hr : RdC A b (o + k * 3) [.int .u64 xi, .int .u64 xf, .slice xa xv.length xc] := hr
    replace hr' : RdC A b' (o' + k * 3) [.int .u64 xi, .int .u64 xf, .slice ya yv.length yc] := hr'
    repeat (first | (refine GQ.y ?_; refine Q.y ?_) | refine Q.go ?_ | (refine GQ.g ?_; refine Q.gq ?_) | (refine GQ.s ?_; refine Q.st ?_) | (refine GQ.g ?_; refine Q.gd ?_) | refine Q.ct rfl ?_ | refine Q.cf rfl ?_ | (refine GQ.a ?_; refine Q.al (fun b1 => ?_)))
    refine D.start [35] [35] [0, 1, 2, 3, 4, 5, 6, 7, 8, 9, 10, 11, 12, 13, 14, 15, 16, 17, 18, 19, 20, 21, 22, 23, 24, 25, 26, 27, 28, 29, 30, 31, 32, 33, 34, 35, 36, 37] _ [] rfl (by kernel_rfl) rfl (by kernel_rfl) NoPanic.no (Ent.refl _) ?_
    repeat (first | refine Q.dyn rfl rfl rfl ?_ | refine Q.dyl rfl rfl rfl ?_ | refine D.y rfl rfl rfl (by kernel_rfl) (by first | exact (Y.ldRj rfl (by first | assumption | exact RdC.sub (by assumption)) rfl) | exact Y.guard rfl (Y.ldRj rfl (by first | assumption | exact RdC.sub (by assumption)) rfl)) ?_ | refine D.endA ?_ | refine Q.dp rfl rfl rfl ?_ | refine Q.dy rfl rfl rfl ?_ | refine D.end_ ?_ | refine Q.endH ?_ | (refine D.e rfl rfl rfl ?_; (first | refine S.gskip1 rfl ?_ | refine S.gskip rfl ?_ | refine S.y (Y.gskipU rfl) ?_); refine opsS_nil ?_; refine N.tn ?_) | refine Q.dT rfl rfl rfl ?_ | refine Q.dF rfl rfl rfl ?_ | (refine D.e rfl rfl rfl ?_; (first | (refine GQ.a ?_; refine Q.al (fun b1 => ?_)) | (refine GQ.s ?_; refine Q.st ?_)); refine opsS_nil ?_; refine N.tn ?_))
    refine Q.dF rfl rfl rfl ?_ (by simp)
    repeat (first | refine Q.dyn rfl rfl rfl ?_ | refine Q.dyl rfl rfl rfl ?_ | refine D.y rfl rfl rfl (by kernel_rfl) (by first | exact (Y.ldRj rfl (by first | assumption | exact RdC.sub (by assumption)) rfl) | exact Y.guard rfl (Y.ldRj rfl (by first | assumption | exact RdC.sub (by assumption)) rfl)) ?_ | refine D.endA ?_ | refine Q.dp rfl rfl rfl ?_ | refine Q.dy rfl rfl rfl ?_ | refine D.end_ ?_ | refine Q.endH ?_ | (refine D.e rfl rfl rfl ?_; (first | refine S.gskip1 rfl ?_ | refine S.gskip rfl ?_ | refine S.y (Y.gskipU rfl) ?_); refine opsS_nil ?_; refine N.tn ?_) | refine Q.dT rfl rfl rfl ?_ | refine Q.dF rfl rfl rfl ?_ | (refine D.e rfl rfl rfl ?_; (first | (refine GQ.a ?_; refine Q.al (fun b1 => ?_)) | (refine GQ.s ?_; refine Q.st ?_)); refine opsS_nil ?_; refine N.tn ?_))
    refine Q.dF rfl rfl rfl ?_ (by simp)
    repeat (first | refine Q.dyn rfl rfl rfl ?_ | refine Q.dyl rfl rfl rfl ?_ | refine D.y rfl rfl rfl (by kernel_rfl) (by first | exact (Y.ldRj rfl (by first | assumption | exact RdC.sub (by assumption)) rfl) | exact Y.guard rfl (Y.ldRj rfl (by first | assumption | exact RdC.sub (by assumption)) rfl)) ?_ | refine D.endA ?_ | refine Q.dp rfl rfl rfl ?_ | refine Q.dy rfl rfl rfl ?_ | refine D.end_ ?_ | refine Q.endH ?_ | (refine D.e rfl rfl rfl ?_; (first | refine S.gskip1 rfl ?_ | refine S.gskip rfl ?_ | refine S.y (Y.gskipU rfl) ?_); refine opsS_nil ?_; refine N.tn ?_) | refine Q.dT rfl rfl rfl ?_ | refine Q.dF rfl rfl rfl ?_ | (refine D.e rfl rfl rfl ?_; (first | (refine GQ.a ?_; refine Q.al (fun b1 => ?_)) | (refine GQ.s ?_; refine Q.st ?_)); refine opsS_nil ?_; refine N.tn ?_))
    refine Q.dc rfl rfl rfl rfl ?_
    rw [List.append_nil]
    refine S.guard rfl ?_
    refine S.cr rfl (SameOps_spec xa xc xv ya yc yv _ ⟨hrx.1.sub, fun u hu => (hrx.2 u hu).sub⟩ ⟨hry.1.sub, fun u hu => (hry.2 u hu).sub⟩ hvx.1 hvx.2 hvc) ?_
    rintro _ _ ⟨rfl, rfl⟩
    repeat (first | (refine GQ.y ?_; refine Q.y ?_) | refine Q.go ?_ | (refine GQ.g ?_; refine Q.gq ?_) | (refine GQ.s ?_; refine Q.st ?_) | (refine GQ.g ?_; refine Q.gd ?_) | refine Q.ct rfl ?_ | refine Q.cf rfl ?_ | (refine GQ.a ?_; refine Q.al (fun b1 => ?_)))
    repeat (first | refine Q.dyn rfl rfl rfl ?_ | refine Q.dyl rfl rfl rfl ?_ | refine D.y rfl rfl rfl (by kernel_rfl) (by first | exact (Y.ldRj rfl (by first | assumption | exact RdC.sub (by assumption)) rfl) | exact Y.guard rfl (Y.ldRj rfl (by first | assumption | exact RdC.sub (by assumption)) rfl)) ?_ | refine D.endA ?_ | refine Q.dp rfl rfl rfl ?_ | refine Q.dy rfl rfl rfl ?_ | refine D.end_ ?_ | refine Q.endH ?_ | (refine D.e rfl rfl rfl ?_; (first | refine S.gskip1 rfl ?_ | refine S.gskip rfl ?_ | refine S.y (Y.gskipU rfl) ?_); refine opsS_nil ?_; refine N.tn ?_) | refine Q.dT rfl rfl rfl ?_ | refine Q.dF rfl rfl rfl ?_ | (refine D.e rfl rfl rfl ?_; (first | (refine GQ.a ?_; refine Q.al (fun b1 => ?_)) | (refine GQ.s ?_; refine Q.st ?_)); refine opsS_nil ?_; refine N.tn ?_))
    repeat (first | (refine GQ.y ?_; refine Q.y ?_) | refine Q.go ?_ | (refine GQ.g ?_; refine Q.gq ?_) | (refine GQ.s ?_; refine Q.st ?_) | (refine GQ.g ?_; refine Q.gd ?_) | refine Q.ct rfl ?_ | refine Q.cf rfl ?_ | (refine GQ.a ?_; refine Q.al (fun b1 => ?_)))
    exact ⟨k + 1, ⟨rfl, rfl, rfl, rfl, trivial⟩, Ent.refl _, by omega, by omega⟩
  · have hke : k = xs.length := by omega
    subst hke
    repeat (first | (refine GQ.y ?_; refine Q.y ?_) | refine Q.go ?_ | (refine GQ.g ?_; refine Q.gq ?_) | (refine GQ.s ?_; refine Q.st ?_) | (refine GQ.g ?_; refine Q.gd ?_) | refine Q.ct rfl ?_ | refine Q.cf rfl ?_ | (refine GQ.a ?_; refine Q.al (fun b1 => ?_)))
    exact N.r1 (RV.tmp rfl RV.nil) (Ent.refl _) ⟨rfl, rfl⟩
set_option maxHeartbeats 1000000 in
theorem SameEntries_spec (a : Option Addr) (c : Nat) (xs : List EV) (a' : Option Addr) (c' : Nat) (ys : List EV) (A : List HP) (h : RdS A a xs.length 2 (xs.flatMap EV.cells) ∧ ∀ e ∈ xs, RdO A e.a e.vs) (h' : RdS A a' ys.length 2 (ys.flatMap EV.cells) ∧ ∀ e ∈ ys, RdO A e.a e.vs) (hn : xs.length ≤ 1000000) (hv : ∀ o ∈ xs, o.vs.length ≤ 1000000 ∧ ∀ u ∈ o.vs, u.vec.length ≤ 1000000) (he : xs.map EV.abs = ys.map EV.abs) :
    CallsS Tryz.prog 42 [.slice a xs.length c, .slice a' ys.length c'] A (fun v L' => v = .bool true ∧ L' = A) := by
  have hl : ys.length = xs.length := by
    have := congrArg List.length he
    simp at this; omega
  refine CallsS.of_body Tryz.func42 rfl rfl rfl ?_
  repeat (first | (refine GQ.y ?_; refine Q.y ?_) | refine Q.go ?_ | (refine GQ.g ?_; refine Q.gq ?_) | (refine GQ.s ?_; refine Q.st ?_) | (refine GQ.g ?_; refine Q.gd ?_) | refine Q.ct rfl ?_ | refine Q.cf rfl ?_ | (refine GQ.a ?_; refine Q.al (fun b1 => ?_)))
  refine swp_loop (σ := Nat) (fun k => [(0, .slice a xs.length c), (1, .slice a' ys.length c'), (12, .int .i64 xs.length), (13, .int .i64 k)]) (fun _ => A)
    (fun k => k ≤ xs.length) (fun k => xs.length - k) 0 ⟨rfl, rfl, rfl, rfl, trivial⟩ (Ent.refl _) (by omega) ?_
  intro k hk
  by_cases hlt : k < xs.length
  · obtain ⟨x, hx⟩ := mem_get hlt
    obtain ⟨y, hy⟩ := mem_get (l := ys) (k := k) (by omega)
    have hxy : x.abs = y.abs := by
      have h1 : (xs.map EV.abs)[k]? = some x.abs := by simp [hx]
      have h2 : (ys.map EV.abs)[k]? = some y.abs := by simp [hy]
      rw [he, h2] at h1
      exact (Option.some.inj h1).symm
    have hid : x.id = y.id := congrArg Prod.fst hxy
    have hvc : x.vs.map OV.abs = y.vs.map OV.abs := congrArg Prod.snd hxy
    have hmx : x ∈ xs := List.mem_of_getElem? hx
    have hmy : y ∈ ys := List.mem_of_getElem? hy
    have hrx := h.2 x hmx
    have hry := h'.2 y hmy
    have hvx := hv x hmx
    obtain ⟨b, o, rfl, hr⟩ := RdS.elem (g := EV.cells) (l := xs) (fun _ => rfl) h.1 hx rfl
    obtain ⟨b', o', rfl, hr'⟩ := RdS.elem (g := EV.cells) (l := ys) (fun _ => rfl) h'.1 hy rfl
    clear hx hy hmx hmy hxy he
    obtain ⟨xi, xa, xc, xv⟩ := x
    obtain ⟨yi, ya, yc, yv⟩ := y
    dsimp only at hid hvc hrx hry hvx
    subst hid
    replace hr : RdC A b (o + k * 2) [.int .u64 xi, .slice xa xv.length xc] := hr
    replace hr' : RdC A b' (o' + k * 2) [.int .u64 xi, .slice ya yv.length yc] := hr'
    repeat (first | (refine GQ.y ?_; refine Q.y ?_) | refine Q.go ?_ | (refine GQ.g ?_; refine Q.gq ?_) | (refine GQ.s ?_; refine Q.st ?_) | (refine GQ.g ?_; refine Q.gd ?_) | refine Q.ct rfl ?_ | refine Q.cf rfl ?_ | (refine GQ.a ?_; refine Q.al (fun b1 => ?_)))
    refine D.start [22] [22] [0, 1, 2, 3, 4, 5, 6, 7, 8, 9, 10, 11, 12, 13, 14, 15, 16, 17, 18, 19, 20, 21, 22, 23, 24] _ [] rfl (by kernel_rfl) rfl (by kernel_rfl) NoPanic.no (Ent.refl _) ?_
    repeat (first | refine Q.dyn rfl rfl rfl ?_ | refine Q.dyl rfl rfl rfl ?_ | refine D.y rfl rfl rfl (by kernel_rfl) (by first | exact (Y.ldRj rfl (by first | assumption | exact RdC.sub (by assumption)) rfl) | exact Y.guard rfl (Y.ldRj rfl (by first | assumption | exact RdC.sub (by assumption)) rfl)) ?_ | refine D.endA ?_ | refine Q.dp rfl rfl rfl ?_ | refine Q.dy rfl rfl rfl ?_ | refine D.end_ ?_ | refine Q.endH ?_ | (refine D.e rfl rfl rfl ?_; (first | refine S.gskip1 rfl ?_ | refine S.gskip rfl ?_ | refine S.y (Y.gskipU rfl) ?_); refine opsS_nil ?_; refine N.tn ?_) | refine Q.dT rfl rfl rfl ?_ | refine Q.dF rfl rfl rfl ?_ | (refine D.e rfl rfl rfl ?_; (first | (refine GQ.a ?_; refine Q.al (fun b1 => ?_)) | (refine GQ.s ?_; refine Q.st ?_)); refine opsS_nil ?_; refine N.tn ?_))
    refine Q.dF rfl rfl rfl ?_ (by simp)
    repeat (first | refine Q.dyn rfl rfl rfl ?_ | refine Q.dyl rfl rfl rfl ?_ | refine D.y rfl rfl rfl (by kernel_rfl) (by first | exact (Y.ldRj rfl (by first | assumption | exact RdC.sub (by assumption)) rfl) | exact Y.guard rfl (Y.ldRj rfl (by first | assumption | exact RdC.sub (by assumption)) rfl)) ?_ | refine D.endA ?_ | refine Q.dp rfl rfl rfl ?_ | refine Q.dy rfl rfl rfl ?_ | refine D.end_ ?_ | refine Q.endH ?_ | (refine D.e rfl rfl rfl ?_; (first | refine S.gskip1 rfl ?_ | refine S.gskip rfl ?_ | refine S.y (Y.gskipU rfl) ?_); refine opsS_nil ?_; refine N.tn ?_) | refine Q.dT rfl rfl rfl ?_ | refine Q.dF rfl rfl rfl ?_ | (refine D.e rfl rfl rfl ?_; (first | (refine GQ.a ?_; refine Q.al (fun b1 => ?_)) | (refine GQ.s ?_; refine Q.st ?_)); refine opsS_nil ?_; refine N.tn ?_))
    refine Q.dc rfl rfl rfl rfl ?_
    rw [List.append_nil]
    refine S.guard rfl ?_
    refine S.cr rfl (Same7_spec xa xc xv ya yc yv _ ⟨hrx.1.sub, fun u hu => (hrx.2 u hu).sub⟩ ⟨hry.1.sub, fun u hu => (hry.2 u hu).sub⟩ hvx.1 hvx.2 hvc) ?_
    rintro _ _ ⟨rfl, rfl⟩
    repeat (first | (refine GQ.y ?_; refine Q.y ?_) | refine Q.go ?_ | (refine GQ.g ?_; refine Q.gq ?_) | (refine GQ.s ?_; refine Q.st ?_) | (refine GQ.g ?_; refine Q.gd ?_) | refine Q.ct rfl ?_ | refine Q.cf rfl ?_ | (refine GQ.a ?_; refine Q.al (fun b1 => ?_)))
    repeat (first | refine Q.dyn rfl rfl rfl ?_ | refine Q.dyl rfl rfl rfl ?_ | refine D.y rfl rfl rfl (by kernel_rfl) (by first | exact (Y.ldRj rfl (by first | assumption | exact RdC.sub (by assumption)) rfl) | exact Y.guard rfl (Y.ldRj rfl (by first | assumption | exact RdC.sub (by assumption)) rfl)) ?_ | refine D.endA ?_ | refine Q.dp rfl rfl rfl ?_ | refine Q.dy rfl rfl rfl ?_ | refine D.end_ ?_ | refine Q.endH ?_ | (refine D.e rfl rfl rfl ?_; (first | refine S.gskip1 rfl ?_ | refine S.gskip rfl ?_ | refine S.y (Y.gskipU rfl) ?_); refine opsS_nil ?_; refine N.tn ?_) | refine Q.dT rfl rfl rfl ?_ | refine Q.dF rfl rfl rfl ?_ | (refine D.e rfl rfl rfl ?_; (first | (refine GQ.a ?_; refine Q.al (fun b1 => ?_)) | (refine GQ.s ?_; refine Q.st ?_)); refine opsS_nil ?_; refine N.tn ?_))
    repeat (first | (refine GQ.y ?_; refine Q.y ?_) | refine Q.go ?_ | (refine GQ.g ?_; refine Q.gq ?_) | (refine GQ.s ?_; refine Q.st ?_) | (refine GQ.g ?_; refine Q.gd ?_) | refine Q.ct rfl ?_ | refine Q.cf rfl ?_ | (refine GQ.a ?_; refine Q.al (fun b1 => ?_)))
    exact ⟨k + 1, ⟨rfl, rfl, rfl, rfl, trivial⟩, Ent.refl _, by omega, by omega⟩
  · have hke : k = xs.length := by omega
    subst hke
    repeat (first | (refine GQ.y ?_; refine Q.y ?_) | refine Q.go ?_ | (refine GQ.g ?_; refine Q.gq ?_) | (refine GQ.s ?_; refine Q.st ?_) | (refine GQ.g ?_; refine Q.gd ?_) | refine Q.ct rfl ?_ | refine Q.cf rfl ?_ | (refine GQ.a ?_; refine Q.al (fun b1 => ?_)))
    exact N.r1 (RV.tmp rfl RV.nil) (Ent.refl _) ⟨rfl, rfl⟩
set_option maxHeartbeats 1000000 in
theorem intents_spec (a : Option Addr) (c : Nat) (es : List IV) (A : List HP) (h : RdS A a es.length 3 (es.flatMap IV.cells)) (hn : es.length ≤ 1000000) :
    CallsS Tryz.prog 41 [.slice a es.length c] A (fun r L' => ∃ a' c', r = .slice a' es.length c' ∧ L' = slO 50 3 a' es.length c' (es.flatMap IV.cells) :: A) := by
  refine CallsS.of_body Tryz.func41 rfl rfl rfl ?_
  repeat (first | (refine GQ.y ?_; refine Q.y ?_) | refine Q.go ?_ | (refine GQ.g ?_; refine Q.gq ?_) | (refine GQ.s ?_; refine Q.st ?_) | (refine GQ.g ?_; refine Q.gd ?_) | refine Q.ct rfl ?_ | refine Q.cf rfl ?_ | (refine GQ.a ?_; refine Q.al (fun b1 => ?_)))
  refine swp_cutB (σ := Option Addr × Nat) (fun u => [(3, .slice u.1 es.length u.2)]) (fun u => slO 50 3 u.1 es.length u.2 (es.flatMap IV.cells) :: A) (fun _ => True) ?_ ?_
  · refine swp_loop (σ := Nat × Option Addr × Nat × List IV) (fun u => [(6, .slice a es.length c), (7, .int .i64 es.length), (3, .slice u.2.1 u.2.2.2.length u.2.2.1), (8, .int .i64 u.1)]) (fun u => slO 50 3 u.2.1 u.2.2.2.length u.2.2.1 (u.2.2.2.flatMap IV.cells) :: A)
      (fun u => u.1 ≤ es.length ∧ u.2.2.2 = es.take u.1) (fun u => es.length - u.1) (0, none, 0, []) ⟨rfl, rfl, rfl, rfl, trivial⟩ (Ent.trans (by repeat (first | exact Ent.refl _ | exact Ent.nil | refine Ent.pick ?_ | refine Ent.nilS ?_ | refine Ent.nilM ?_ | refine Ent.drop ?_)) slO_nil) ⟨by omega, rfl⟩ ?_
    rintro ⟨k, a3, c3, us⟩ ⟨hk, hus⟩
    dsimp only at hk hus ⊢
    have hul : us.length = k := by rw [hus, List.length_take]; omega
    by_cases hlt : k < es.length
    · obtain ⟨e, he⟩ := mem_get hlt
      have hrs : RdS (slO 50 3 a3 us.length c3 (us.flatMap IV.cells) :: A) a es.length 3 (es.flatMap IV.cells) := h.sub
      obtain ⟨b, oo, hia, hr⟩ := RdS.elem (g := IV.cells) (fun _ => rfl) hrs he rfl
      clear hrs
      rw [hia]
      repeat (first | (refine GQ.y ?_; refine Q.y ?_) | refine Q.go ?_ | (refine GQ.g ?_; refine Q.gq ?_) | (refine GQ.s ?_; refine Q.st ?_) | (refine GQ.g ?_; refine Q.gd ?_) | refine Q.ct rfl ?_ | refine Q.cf rfl ?_ | (refine GQ.a ?_; refine Q.al (fun b1 => ?_)))
      refine S.app rfl rfl (SrcS.sl RdC.row (by rfl) (by rfl)) (by rfl) (by omega) (by omega) (fun a4 c4 => ?_)
      repeat (first | (refine GQ.y ?_; refine Q.y ?_) | refine Q.go ?_ | (refine GQ.g ?_; refine Q.gq ?_) | (refine GQ.s ?_; refine Q.st ?_) | (refine GQ.g ?_; refine Q.gd ?_) | refine Q.ct rfl ?_ | refine Q.cf rfl ?_ | (refine GQ.a ?_; refine Q.al (fun b1 => ?_)))
      refine ⟨(k + 1, a4, c4, us ++ [e]), ⟨rfl, rfl, congrArg some (by simp), rfl, trivial⟩, ?_, ⟨by dsimp only; omega, by dsimp only; rw [hus, take_snoc he]⟩, by dsimp only; omega⟩
      dsimp only
      rw [len_snoc, flat_snoc]
      repeat (first | exact Ent.refl _ | exact Ent.nil | refine Ent.pick ?_ | refine Ent.nilS ?_ | refine Ent.nilM ?_ | refine Ent.drop ?_)
    · have hke : k = es.length := by omega
      subst hke
      rw [List.take_length] at hus
      subst hus
      repeat (first | (refine GQ.y ?_; refine Q.y ?_) | refine Q.go ?_ | (refine GQ.g ?_; refine Q.gq ?_) | (refine GQ.s ?_; refine Q.st ?_) | (refine GQ.g ?_; refine Q.gd ?_) | refine Q.ct rfl ?_ | refine Q.cf rfl ?_ | (refine GQ.a ?_; refine Q.al (fun b1 => ?_)))
      exact ⟨(a3, c3), ⟨rfl, trivial⟩, by repeat (first | exact Ent.refl _ | exact Ent.nil | refine Ent.pick ?_ | refine Ent.nilS ?_ | refine Ent.nilM ?_ | refine Ent.drop ?_), trivial⟩
  rintro ⟨a3, c3⟩ -
  repeat (first | (refine GQ.y ?_; refine Q.y ?_) | refine Q.go ?_ | (refine GQ.g ?_; refine Q.gq ?_) | (refine GQ.s ?_; refine Q.st ?_) | (refine GQ.g ?_; refine Q.gd ?_) | refine Q.ct rfl ?_ | refine Q.cf rfl ?_ | (refine GQ.a ?_; refine Q.al (fun b1 => ?_)))
  exact N.r1 (RV.tmp rfl RV.nil) (Ent.refl _) ⟨a3, c3, rfl, rfl⟩
abbrev ver7 (e : EV) : HP := slO 43 2 e.a e.vs.length e.c (e.vs.flatMap OV.cells)
abbrev ver7H (es : List EV) : HP := allH (es.map ver7)
theorem ver7_snoc {es : List EV} {e : EV} {L : List HP} : Ent (slO 43 2 e.a e.vs.length e.c (e.vs.flatMap OV.cells) :: ver7H es :: L) (ver7H (es ++ [e]) :: L) := by
  show Ent _ (allH ((es ++ [e]).map ver7) :: L)
  rw [List.map_append, List.map_cons, List.map_nil]
  exact allH_snoc
theorem opsS_abs7 (es : List EV) {n : Nat} {ops rest : List Oper} {Q : Post} {f : Env} {L L0 L1 : List HP} {M : Nat → Option Obj} [h : Pick (ver7H es) L L0] [h1 : PickM L0 M L1] (hk : ∀ M', leM M M' → (∀ e ∈ es, SlM M' e.a e.vs.length 2 (e.vs.flatMap OV.cells)) → opsS Tryz.prog n ops rest Q f (roM M' :: L1)) : opsS Tryz.prog n ops rest Q f L :=
  opsS_ent (h.ent.trans (abs_all ver7 (fun M' e => SlM M' e.a e.vs.length 2 (e.vs.flatMap OV.cells)) (fun M M' x hl h => SlM.mono h hl) (fun x L L0 M _ => Ent.absorb) es)) (opsS_ex fun M' => opsS_all (opsS_pure fun hh => hk M' hh.1 hh.2))
set_option maxHeartbeats 2000000 in
theorem entries_spec (a : Option Addr) (c : Nat) (es : List EV) (A : List HP) (h : RdS A a es.length 2 (es.flatMap EV.cells)) (h' : ∀ e ∈ es, RdS A e.a e.vs.length 2 (e.vs.flatMap OV.cells) ∧ e.vs.length ≤ 1000000) (hn : es.length ≤ 1000000) :
    CallsS Tryz.prog 43 [.slice a es.length c] A (fun r L' => ∃ (a' : Option Addr) (c' : Nat) (us : List EV), r = .slice a' us.length c' ∧ us.map (fun e => (e.id, e.vs)) = es.map (fun e => (e.id, e.vs)) ∧ L' = slO 37 2 a' us.length c' (us.flatMap EV.cells) :: ver7H us :: A) := by
  refine CallsS.of_body Tryz.func43 rfl rfl rfl ?_
  repeat (first | (refine GQ.y ?_; refine Q.y ?_) | refine Q.go ?_ | (refine GQ.g ?_; refine Q.gq ?_) | (refine GQ.s ?_; refine Q.st ?_) | (refine GQ.g ?_; refine Q.gd ?_) | refine Q.ct rfl ?_ | refine Q.cf rfl ?_ | (refine GQ.a ?_; refine Q.al (fun b1 => ?_)))
  refine swp_cutB (σ := Option Addr × Nat × List EV) (fun u => [(3, .slice u.1 u.2.2.length u.2.1)]) (fun u => slO 37 2 u.1 u.2.2.length u.2.1 (u.2.2.flatMap EV.cells) :: ver7H u.2.2 :: A) (fun u => u.2.2.map (fun e => (e.id, e.vs)) = es.map (fun e => (e.id, e.vs))) ?_ ?_
  · refine swp_loop (σ := Nat × Option Addr × Nat × List EV) (fun u => [(9, .slice a es.length c), (10, .int .i64 es.length), (3, .slice u.2.1 u.2.2.2.length u.2.2.1), (11, .int .i64 u.1)]) (fun u => slO 37 2 u.2.1 u.2.2.2.length u.2.2.1 (u.2.2.2.flatMap EV.cells) :: ver7H u.2.2.2 :: A)
      (fun u => u.1 ≤ es.length ∧ u.2.2.2.map (fun e => (e.id, e.vs)) = (es.take u.1).map (fun e => (e.id, e.vs))) (fun u => es.length - u.1) (0, none, 0, []) ⟨rfl, rfl, rfl, rfl, trivial⟩ (Ent.trans (Ent.trans (by repeat (first | exact Ent.refl _ | exact Ent.nil | refine Ent.pick ?_ | refine Ent.nilS ?_ | refine Ent.nilM ?_ | refine Ent.drop ?_)) (Ent.shut_all (L := []))) slO_nil) ⟨by omega, rfl⟩ ?_
    rintro ⟨k, a3, c3, us⟩ ⟨hk, hus⟩
    dsimp only at hk hus ⊢
    have hul : us.length = k := by
      have := congrArg List.length hus
      simp at this; omega
    by_cases hlt : k < es.length
    · obtain ⟨e, he⟩ := mem_get hlt
      have hme : e ∈ es := List.mem_of_getElem? he
      obtain ⟨hv, hvl⟩ := h' e hme
      have hrs : RdS (slO 37 2 a3 us.length c3 (us.flatMap EV.cells) :: ver7H us :: A) a es.length 2 (es.flatMap EV.cells) := h.sub
      obtain ⟨b, oo, hia, hr⟩ := RdS.elem (g := EV.cells) (fun _ => rfl) hrs he rfl
      clear hrs
      rw [hia]
      repeat (first | (refine GQ.y ?_; refine Q.y ?_) | refine Q.go ?_ | (refine GQ.g ?_; refine Q.gq ?_) | (refine GQ.s ?_; refine Q.st ?_) | (refine GQ.g ?_; refine Q.gd ?_) | refine Q.ct rfl ?_ | refine Q.cf rfl ?_ | (refine GQ.a ?_; refine Q.al (fun b1 => ?_)))
      rename_i b5
      refine swp_cutB (σ := Option Addr × Nat) (fun u => [(3, .slice a3 us.length c3), (6, .pointer (some ⟨b1, 0, none⟩)), (9, .slice (some ⟨b, oo, none⟩) es.length c), (10, .int .i64 es.length), (11, .int .i64 k)]) (fun u => pt b1 (cl [.int .u64 e.id, .slice u.1 e.vs.length u.2] 37) :: slO 43 2 u.1 e.vs.length u.2 (e.vs.flatMap OV.cells) :: slO 37 2 a3 us.length c3 (us.flatMap EV.cells) :: ver7H us :: A) (fun _ => True) ?_ ?_
      · refine swp_loop (σ := Nat × Option Addr × Nat × List OV) (fun u => [(3, .slice a3 us.length c3), (6, .pointer (some ⟨b1, 0, none⟩)), (9, .slice (some ⟨b, oo, none⟩) es.length c), (10, .int .i64 es.length), (11, .int .i64 k), (19, .slice e.a e.vs.length e.c), (20, .int .i64 e.vs.length), (21, .int .i64 u.1)])
          (fun u => pt b1 (cl [.int .u64 e.id, .slice u.2.1 u.2.2.2.length u.2.2.1] 37) :: slO 43 2 u.2.1 u.2.2.2.length u.2.2.1 (u.2.2.2.flatMap OV.cells) :: slO 37 2 a3 us.length c3 (us.flatMap EV.cells) :: ver7H us :: A) (fun u => u.1 ≤ e.vs.length ∧ u.2.2.2 = e.vs.take u.1) (fun u => e.vs.length - u.1) (0, none, 0, []) ⟨rfl, rfl, rfl, rfl, rfl, rfl, rfl, rfl, trivial⟩ ?_ ⟨by omega, rfl⟩ ?_
        · refine Ent.trans ?_ (Ent.cons slO_nil)
          repeat (first | exact Ent.refl _ | exact Ent.nil | refine Ent.pick ?_ | refine Ent.nilS ?_ | refine Ent.nilM ?_ | refine Ent.drop ?_)
        rintro ⟨j, a6, c6, ws⟩ ⟨hj, hws⟩
        dsimp only at hj hws ⊢
        have hwl : ws.length = j := by rw [hws, List.length_take]; omega
        by_cases hjl : j < e.vs.length
        · obtain ⟨o, ho⟩ := mem_get hjl
          have hrs : RdS (pt b1 (cl [.int .u64 e.id, .slice a6 ws.length c6] 37) :: slO 43 2 a6 ws.length c6 (ws.flatMap OV.cells) :: slO 37 2 a3 us.length c3 (us.flatMap EV.cells) :: ver7H us :: A) e.a e.vs.length 2 (e.vs.flatMap OV.cells) := hv.sub
          obtain ⟨b7, o7, hia7, hr7⟩ := RdS.elem (g := OV.cells) (fun _ => rfl) hrs ho rfl
          clear hrs
          rw [hia7]
          repeat (first | (refine GQ.y ?_; refine Q.y ?_) | refine Q.go ?_ | (refine GQ.g ?_; refine Q.gq ?_) | (refine GQ.s ?_; refine Q.st ?_) | (refine GQ.g ?_; refine Q.gd ?_) | refine Q.ct rfl ?_ | refine Q.cf rfl ?_ | (refine GQ.a ?_; refine Q.al (fun b1 => ?_)))
          refine S.app rfl rfl (SrcS.sl RdC.row (by rfl) (by rfl)) (by rfl) (by omega) (by omega) (fun a8 c8 => ?_)
          repeat (first | (refine GQ.y ?_; refine Q.y ?_) | refine Q.go ?_ | (refine GQ.g ?_; refine Q.gq ?_) | (refine GQ.s ?_; refine Q.st ?_) | (refine GQ.g ?_; refine Q.gd ?_) | refine Q.ct rfl ?_ | refine Q.cf rfl ?_ | (refine GQ.a ?_; refine Q.al (fun b1 => ?_)))
          refine ⟨(j + 1, a8, c8, ws ++ [o]), ⟨rfl, rfl, rfl, rfl, rfl, rfl, rfl, rfl, trivial⟩, ?_, ⟨by dsimp only; omega, by dsimp only; rw [hws, take_snoc ho]⟩, by dsimp only; omega⟩
          dsimp only
          rw [len_snoc, flat_snoc]
          repeat (first | exact Ent.refl _ | exact Ent.nil | refine Ent.pick ?_ | refine Ent.nilS ?_ | refine Ent.nilM ?_ | refine Ent.drop ?_)
        · have hje : j = e.vs.length := by omega
          subst hje
          rw [List.take_length] at hws
          subst hws
          repeat (first | (refine GQ.y ?_; refine Q.y ?_) | refine Q.go ?_ | (refine GQ.g ?_; refine Q.gq ?_) | (refine GQ.s ?_; refine Q.st ?_) | (refine GQ.g ?_; refine Q.gd ?_) | refine Q.ct rfl ?_ | refine Q.cf rfl ?_ | (refine GQ.a ?_; refine Q.al (fun b1 => ?_)))
          exact ⟨(a6, c6), ⟨rfl, rfl, rfl, rfl, rfl, trivial⟩, by repeat (first | exact Ent.refl _ | exact Ent.nil | refine Ent.pick ?_ | refine Ent.nilS ?_ | refine Ent.nilM ?_ | refine Ent.drop ?_), trivial⟩
      rintro ⟨a6, c6⟩ -
      dsimp only
      repeat (first | (refine GQ.y ?_; refine Q.y ?_) | refine Q.go ?_ | (refine GQ.g ?_; refine Q.gq ?_) | (refine GQ.s ?_; refine Q.st ?_) | (refine GQ.g ?_; refine Q.gd ?_) | refine Q.ct rfl ?_ | refine Q.cf rfl ?_ | (refine GQ.a ?_; refine Q.al (fun b1 => ?_)))
      refine S.app rfl rfl (SrcS.sl RdC.row (by rfl) (by rfl)) (by rfl) (by omega) (by omega) (fun a8 c8 => ?_)
      repeat (first | (refine GQ.y ?_; refine Q.y ?_) | refine Q.go ?_ | (refine GQ.g ?_; refine Q.gq ?_) | (refine GQ.s ?_; refine Q.st ?_) | (refine GQ.g ?_; refine Q.gd ?_) | refine Q.ct rfl ?_ | refine Q.cf rfl ?_ | (refine GQ.a ?_; refine Q.al (fun b1 => ?_)))
      refine ⟨(k + 1, a8, c8, us ++ [⟨e.id, a6, c6, e.vs⟩]), ⟨rfl, rfl, congrArg some (by simp), rfl, trivial⟩, ?_, ⟨by dsimp only; omega, by dsimp only; rw [take_snoc he, List.map_append, List.map_append, hus]; rfl⟩, by dsimp only; omega⟩
      dsimp only
      rw [len_snoc, flat_snoc]
      refine Ent.trans ?_ (Ent.cons ver7_snoc)
      dsimp only
      repeat (first | exact Ent.refl _ | exact Ent.nil | refine Ent.pick ?_ | refine Ent.nilS ?_ | refine Ent.nilM ?_ | refine Ent.drop ?_)
    · have hke : k = es.length := by omega
      subst hke
      rw [List.take_length] at hus
      repeat (first | (refine GQ.y ?_; refine Q.y ?_) | refine Q.go ?_ | (refine GQ.g ?_; refine Q.gq ?_) | (refine GQ.s ?_; refine Q.st ?_) | (refine GQ.g ?_; refine Q.gd ?_) | refine Q.ct rfl ?_ | refine Q.cf rfl ?_ | (refine GQ.a ?_; refine Q.al (fun b1 => ?_)))
      exact ⟨(a3, c3, us), ⟨rfl, trivial⟩, by repeat (first | exact Ent.refl _ | exact Ent.nil | refine Ent.pick ?_ | refine Ent.nilS ?_ | refine Ent.nilM ?_ | refine Ent.drop ?_), hus⟩
  rintro ⟨a3, c3, us⟩ hus
  dsimp only at hus ⊢
  repeat (first | (refine GQ.y ?_; refine Q.y ?_) | refine Q.go ?_ | (refine GQ.g ?_; refine Q.gq ?_) | (refine GQ.s ?_; refine Q.st ?_) | (refine GQ.g ?_; refine Q.gd ?_) | refine Q.ct rfl ?_ | refine Q.cf rfl ?_ | (refine GQ.a ?_; refine Q.al (fun b1 => ?_)))
  exact N.r1 (RV.tmp rfl RV.nil) (Ent.refl _) ⟨a3, c3, us, rfl, hus, rfl⟩
end Go.Proofs.YtieejgbjgcbbjaaGreat
/- What is asked of a vault and of the ref's: alike. No condition. -/
namespace Go.Proofs.YtieejgbjgcbbjaaGreat
open Go Go.SX
attribute [local irreducible] swp opsS thenS blockS retS CallsS St Ent YieldS anyS drawS
theorem RGet2_spec (p : Nat) (st : VS) (n : Nat) (M : Nat → Option Obj) (a : Option Addr) (es : List EV) (c : Nat) (a' : Option Addr) (is : List IV) (c' : Nat) (id s : Int) (A : List HP) (hok : ROK M st a c es a' c' is) (hw : WF st n) (hn : n ≤ 10000) :
    CallsS Tryz.prog 32 [ptrV p, .int .u64 id, .int .u64 s] (rP p st.dim a es c a' is c' st.mark :: roM M :: A) (fun r L' => (∃ a4 c4, r = .tuple #[.slice a4 (getV st id s).length c4, .int .i64 (openE st s [id])] ∧ SlM M a4 (getV st id s).length 1 ((getV st id s).map I32)) ∧ L' = rP p st.dim a es c a' is c' st.mark :: roM M :: A) :=
  (RGet_spec p st n M a es c a' is c' id s A hok hw hn).mono fun r L' ⟨⟨u, h1, h2, h3⟩, h4⟩ => by
    refine ⟨?_, h4⟩
    cases u with
    | none => exact ⟨none, 0, by rw [h1, h3]; rfl, by rw [h3]; exact SlM.nil⟩
    | some o => exact ⟨o.a, o.c, by rw [h1, h3]; rfl, by rw [h3]; exact h2 o rfl⟩
theorem perm_lt_eq {α : Type} : ∀ {l1 l2 : List (Int × α)}, l1.Perm l2 → (l1.map (·.1)).Pairwise (· < ·) → (l2.map (·.1)).Pairwise (· < ·) → l1 = l2
  | [], l2, h, _, _ => h.nil_eq
  | x :: l1, [], h, _, _ => absurd h.length_eq (by simp)
  | x :: l1, y :: l2, h, h1, h2 => by
    rw [List.map_cons, List.pairwise_cons] at h1 h2
    have hxy : x = y := by
      rcases List.mem_cons.1 (h.mem_iff.1 (List.mem_cons_self)) with e | e
      · exact e
      · rcases List.mem_cons.1 (h.mem_iff.2 (List.mem_cons_self)) with e2 | e2
        · exact e2.symm
        · have a1 := h2.1 _ (List.mem_map_of_mem e)
          have a2 := h1.1 _ (List.mem_map_of_mem e2)
          omega
    subst hxy
    rw [perm_lt_eq h.cons_inv h1.2 h2.2]
set_option maxHeartbeats 4000000 in
theorem asks_spec (v p : Nat) (st : VS) (n : Nat) (o : DV) (M : Nat → Option Obj) (A : List HP) (hw : WF st n) (hn : n ≤ 10000) (hi : SlM M o.ia o.ids.length 1 (o.ids.map U64)) (hic : o.ids.length ≤ o.ic) (hil : o.ids.length ≤ 9223372036854775807) :
    CallsS Tryz.prog 10 [ptrV v, ptrV p, o.val] (vaultH v st :: refH p st :: roM M :: A) (fun r L' => r = .bool true ∧ ∃ M', leM M M' ∧ L' = vaultH v st :: refH p st :: roM M' :: A) := by
  refine CallsS.of_body Tryz.func10 rfl rfl rfl ?_
  repeat (first | (refine GQ.y ?_; refine Q.y ?_) | refine Q.go ?_ | (refine GQ.g ?_; refine Q.gq ?_) | (refine GQ.s ?_; refine Q.st ?_) | (refine GQ.g ?_; refine Q.gd ?_) | refine Q.ct rfl ?_ | refine Q.cf rfl ?_ | (refine GQ.a ?_; refine Q.al (fun b1 => ?_)))
  rename_i bo
  have hl5 : (o.ids.take 5).length = min 5 o.ids.length := List.length_take ..
  have hr : ∀ {L : List HP} [HasM M L], RdS L o.ia (o.ids.take 5).length 1 ((o.ids.take 5).map U64) := fun {L} _ => by
    have := (hi.rd (L := L)).take (k := min 5 o.ids.length) (by omega)
    rw [hl5]
    rw [Nat.mul_one, ← List.map_take] at this
    rwa [← List.take_eq_take_min] at this
  have em : min (o.ids.length : Int) 5 = ((o.ids.take 5).length : Nat) := by rw [hl5]; omega
  rw [em]
  generalize o.ids.take 5 = ids at hl5 hr
  refine opsS_ent (slO_fold (sz := 1) (m := 0) rfl) ?_
  refine S.y (Y.slT (h := ids.length) rfl rfl (by omega) (by omega)) ?_
  refine S.app0 rfl rfl rfl (SrcS.rd hr (U_one _)) (by rfl) (by omega) (by omega) (fun a1 c1 => ?_)
  refine opsS_addr a1 (fun ha1 => ?_)
  repeat (first | (refine GQ.y ?_; refine Q.y ?_) | refine Q.go ?_ | (refine GQ.g ?_; refine Q.gq ?_) | (refine GQ.s ?_; refine Q.st ?_) | (refine GQ.g ?_; refine Q.gd ?_) | refine Q.ct rfl ?_ | refine Q.cf rfl ?_ | (refine GQ.a ?_; refine Q.al (fun b1 => ?_)))
  refine S.cv v rfl (Get_spec v st n o.id o.ask _ hw hn) ?_
  rintro _ _ ⟨a2, c2, rfl, rfl⟩
  refine opsS_addr a2 (fun ha2 => ?_)
  repeat (first | (refine GQ.y ?_; refine Q.y ?_) | refine Q.go ?_ | (refine GQ.g ?_; refine Q.gq ?_) | (refine GQ.s ?_; refine Q.st ?_) | (refine GQ.g ?_; refine Q.gd ?_) | refine Q.ct rfl ?_ | refine Q.cf rfl ?_ | (refine GQ.a ?_; refine Q.al (fun b1 => ?_)))
  refine opsS_rf p (fun Mr ra rc es ra' rc' is hok => ?_)
  refine S.cr rfl (RGet2_spec p st n Mr ra es rc ra' is rc' o.id o.ask _ hok hw hn) ?_
  rintro _ _ ⟨⟨a4, c4, rfl, hs4⟩, rfl⟩
  repeat (first | (refine GQ.y ?_; refine Q.y ?_) | refine Q.go ?_ | (refine GQ.g ?_; refine Q.gq ?_) | (refine GQ.s ?_; refine Q.st ?_) | (refine GQ.g ?_; refine Q.gd ?_) | refine Q.ct rfl ?_ | refine Q.cf rfl ?_ | (refine GQ.a ?_; refine Q.al (fun b1 => ?_)))
  refine S.cv v rfl (Scan_spec v st n o.ask _ hw hn) ?_
  rintro _ _ ⟨a3, c3, us, rfl, hus, hua, hul, rfl⟩
  refine opsS_addr a3 (fun ha3 => ?_)
  have huv : ∀ w ∈ us, w.vec.length ≤ 1000000 := fun w hw2 => by
    have := scan_vec hw o.ask w.abs (by rw [← hus]; exact List.mem_map_of_mem hw2)
    dsimp only at this; omega
  have hgl : (getV st o.id o.ask).length ≤ 8 := by
    unfold getV
    split
    · simp
    · exact at_len hw _ _
  repeat (first | (refine GQ.y ?_; refine Q.y ?_) | refine Q.go ?_ | (refine GQ.g ?_; refine Q.gq ?_) | (refine GQ.s ?_; refine Q.st ?_) | (refine GQ.g ?_; refine Q.gd ?_) | refine Q.ct rfl ?_ | refine Q.cf rfl ?_ | (refine GQ.a ?_; refine Q.al (fun b1 => ?_)))
  refine opsS_ent (L' := rP p st.dim ra es rc ra' is rc' st.mark :: roM Mr :: slO 138 3 a3 us.length c3 (us.flatMap cH) :: vecsH us :: vaultH v st :: slO 21 1 a2 (getV st o.id o.ask).length c2 ((getV st o.id o.ask).map I32) :: slO 22 1 a1 ids.length c1 (ids.map U64) :: pt bo (cl o.cells 53) :: roM M :: A) (by repeat (first | exact Ent.refl _ | exact Ent.nil | refine Ent.pick ?_ | refine Ent.nilS ?_ | refine Ent.nilM ?_ | refine Ent.drop ?_)) ?_
  refine S.cr rfl (RScan_spec p st n Mr ra es rc ra' is rc' o.ask _ hok hw hn) ?_
  rintro _ _ ⟨a7, c7, ws, rfl, hws, hwo, hwl, rfl⟩
  refine opsS_addr a7 (fun ha7 => ?_)
  have hbl : ∀ s ids, ∃ b, b = blockedV st s ids := fun s ids => ⟨_, rfl⟩
  obtain ⟨bl, hbl⟩ := hbl o.ask ids
  generalize openE st o.ask [o.id] = e1
  generalize openE st o.ask [] = e2
  generalize getV st o.id o.ask = g at ha2 hs4 hgl ⊢
  repeat (first | (refine GQ.y ?_; refine Q.y ?_) | refine Q.go ?_ | (refine GQ.g ?_; refine Q.gq ?_) | (refine GQ.s ?_; refine Q.st ?_) | (refine GQ.g ?_; refine Q.gd ?_) | refine Q.ct rfl ?_ | refine Q.cf rfl ?_ | (refine GQ.a ?_; refine Q.al (fun b1 => ?_)))
  refine Q.dgo [false, false, false, false, false, false, false, false, true, false] [2, 19, 32, 37, 42, 44] [] [0, 1, 2, 3, 4, 5, 6, 7, 8, 9, 10, 11, 12, 13, 14, 15, 16, 17, 18, 19, 20, 21, 22, 23, 24, 25, 26, 27, 28, 29, 30, 31, 33, 34, 35, 36, 32, 37, 38, 39, 40, 41, 43, 42, 44, 45, 46] ?_
  repeat (first | refine D.endA ?_ | refine Q.dy rfl rfl rfl ?_ | refine Q.dp rfl rfl rfl ?_ | refine D.end_ ?_ | refine Q.endH ?_ | (refine D.e rfl rfl rfl ?_; (first | refine S.gskip1 rfl ?_ | refine S.gskip rfl ?_ | refine S.y (Y.gskipU rfl) ?_); refine opsS_nil ?_; refine N.tn ?_) | refine Q.dT rfl rfl rfl ?_ | refine Q.dF rfl rfl rfl ?_ | (refine D.e rfl rfl rfl ?_; (first | (refine GQ.a ?_; refine Q.al (fun b1 => ?_)) | (refine GQ.s ?_; refine Q.st ?_)); refine opsS_nil ?_; refine N.tn ?_))
  refine D.e rfl rfl rfl ?_
  refine S.cr rfl (SameVec_spec a2 c2 g a4 c4 g _ (RdS.ofS (by simp) ha2) hs4.rd (by omega)) ?_
  rintro _ _ ⟨rfl, rfl⟩
  rw [decide_eq_true rfl]
  repeat (first | (refine GQ.y ?_; refine Q.y ?_) | refine Q.go ?_ | (refine GQ.g ?_; refine Q.gq ?_) | (refine GQ.s ?_; refine Q.st ?_) | (refine GQ.g ?_; refine Q.gd ?_) | refine Q.ct rfl ?_ | refine Q.cf rfl ?_ | (refine GQ.a ?_; refine Q.al (fun b1 => ?_)))
  repeat (first | refine D.endA ?_ | refine Q.dy rfl rfl rfl ?_ | refine Q.dp rfl rfl rfl ?_ | refine D.end_ ?_ | refine Q.endH ?_ | (refine D.e rfl rfl rfl ?_; (first | refine S.gskip1 rfl ?_ | refine S.gskip rfl ?_ | refine S.y (Y.gskipU rfl) ?_); refine opsS_nil ?_; refine N.tn ?_) | refine Q.dT rfl rfl rfl ?_ | refine Q.dF rfl rfl rfl ?_ | (refine D.e rfl rfl rfl ?_; (first | (refine GQ.a ?_; refine Q.al (fun b1 => ?_)) | (refine GQ.s ?_; refine Q.st ?_)); refine opsS_nil ?_; refine N.tn ?_))
  refine Q.dF rfl rfl rfl ?_ (by simp)
  repeat (first | refine D.endA ?_ | refine Q.dy rfl rfl rfl ?_ | refine Q.dp rfl rfl rfl ?_ | refine D.end_ ?_ | refine Q.endH ?_ | (refine D.e rfl rfl rfl ?_; (first | refine S.gskip1 rfl ?_ | refine S.gskip rfl ?_ | refine S.y (Y.gskipU rfl) ?_); refine opsS_nil ?_; refine N.tn ?_) | refine Q.dT rfl rfl rfl ?_ | refine Q.dF rfl rfl rfl ?_ | (refine D.e rfl rfl rfl ?_; (first | (refine GQ.a ?_; refine Q.al (fun b1 => ?_)) | (refine GQ.s ?_; refine Q.st ?_)); refine opsS_nil ?_; refine N.tn ?_))
  refine D.e rfl rfl rfl ?_
  refine S.guard rfl ?_
  refine S.cr rfl (SameHits_spec a3 c3 us a7 c7 ws _ ⟨RdS.ofS (flat_len3 _) ha3, fun w hw2 => vecs_rd hw2 hua⟩ ⟨RdS.ofS (flat_len3 _) ha7, fun w hw2 => (hwo w hw2).rd⟩ (by omega) huv (hus.trans hws.symm)) ?_
  rintro _ _ ⟨rfl, rfl⟩
  repeat (first | (refine GQ.y ?_; refine Q.y ?_) | refine Q.go ?_ | (refine GQ.g ?_; refine Q.gq ?_) | (refine GQ.s ?_; refine Q.st ?_) | (refine GQ.g ?_; refine Q.gd ?_) | refine Q.ct rfl ?_ | refine Q.cf rfl ?_ | (refine GQ.a ?_; refine Q.al (fun b1 => ?_)))
  repeat (first | refine D.endA ?_ | refine Q.dy rfl rfl rfl ?_ | refine Q.dp rfl rfl rfl ?_ | refine D.end_ ?_ | refine Q.endH ?_ | (refine D.e rfl rfl rfl ?_; (first | refine S.gskip1 rfl ?_ | refine S.gskip rfl ?_ | refine S.y (Y.gskipU rfl) ?_); refine opsS_nil ?_; refine N.tn ?_) | refine Q.dT rfl rfl rfl ?_ | refine Q.dF rfl rfl rfl ?_ | (refine D.e rfl rfl rfl ?_; (first | (refine GQ.a ?_; refine Q.al (fun b1 => ?_)) | (refine GQ.s ?_; refine Q.st ?_)); refine opsS_nil ?_; refine N.tn ?_))
  refine Q.dF rfl rfl rfl ?_ (by simp)
  repeat (first | refine D.endA ?_ | refine Q.dy rfl rfl rfl ?_ | refine Q.dp rfl rfl rfl ?_ | refine D.end_ ?_ | refine Q.endH ?_ | (refine D.e rfl rfl rfl ?_; (first | refine S.gskip1 rfl ?_ | refine S.gskip rfl ?_ | refine S.y (Y.gskipU rfl) ?_); refine opsS_nil ?_; refine N.tn ?_) | refine Q.dT rfl rfl rfl ?_ | refine Q.dF rfl rfl rfl ?_ | (refine D.e rfl rfl rfl ?_; (first | (refine GQ.a ?_; refine Q.al (fun b1 => ?_)) | (refine GQ.s ?_; refine Q.st ?_)); refine opsS_nil ?_; refine N.tn ?_))
  refine D.e rfl rfl rfl ?_
  refine S.guard rfl ?_
  refine S.cv v rfl (Blocked_spec v st o.ask a1 c1 ids _ hw.ops (RdS.ofS (by simp) ha1) (by omega)) ?_
  rintro _ _ ⟨rfl, rfl⟩
  repeat (first | (refine GQ.y ?_; refine Q.y ?_) | refine Q.go ?_ | (refine GQ.g ?_; refine Q.gq ?_) | (refine GQ.s ?_; refine Q.st ?_) | (refine GQ.g ?_; refine Q.gd ?_) | refine Q.ct rfl ?_ | refine Q.cf rfl ?_ | (refine GQ.a ?_; refine Q.al (fun b1 => ?_)))
  repeat (first | refine D.endA ?_ | refine Q.dy rfl rfl rfl ?_ | refine Q.dp rfl rfl rfl ?_ | refine D.end_ ?_ | refine Q.endH ?_ | (refine D.e rfl rfl rfl ?_; (first | refine S.gskip1 rfl ?_ | refine S.gskip rfl ?_ | refine S.y (Y.gskipU rfl) ?_); refine opsS_nil ?_; refine N.tn ?_) | refine Q.dT rfl rfl rfl ?_ | refine Q.dF rfl rfl rfl ?_ | (refine D.e rfl rfl rfl ?_; (first | (refine GQ.a ?_; refine Q.al (fun b1 => ?_)) | (refine GQ.s ?_; refine Q.st ?_)); refine opsS_nil ?_; refine N.tn ?_))
  refine D.e rfl rfl rfl ?_
  refine S.guard rfl ?_
  refine opsS_ent (L' := rP p st.dim ra es rc ra' is rc' st.mark :: roM Mr :: slO 22 1 a1 ids.length c1 (ids.map U64) :: vaultH v st :: roM M :: A) (by repeat (first | exact Ent.refl _ | exact Ent.nil | refine Ent.pick ?_ | refine Ent.nilS ?_ | refine Ent.nilM ?_ | refine Ent.drop ?_)) ?_
  refine S.cr rfl (RBlocked_spec p st n Mr ra es rc ra' is rc' o.ask a1 c1 ids _ hok hw hn (RdS.ofS (by simp) ha1) (by omega)) ?_
  rintro _ _ ⟨rfl, rfl⟩
  rw [← hbl]
  clear hbl
  repeat (first | (refine GQ.y ?_; refine Q.y ?_) | refine Q.go ?_ | (refine GQ.g ?_; refine Q.gq ?_) | (refine GQ.s ?_; refine Q.st ?_) | (refine GQ.g ?_; refine Q.gd ?_) | refine Q.ct rfl ?_ | refine Q.cf rfl ?_ | (refine GQ.a ?_; refine Q.al (fun b1 => ?_)))
  repeat (first | refine D.endA ?_ | refine Q.dy rfl rfl rfl ?_ | refine Q.dp rfl rfl rfl ?_ | refine D.end_ ?_ | refine Q.endH ?_ | (refine D.e rfl rfl rfl ?_; (first | refine S.gskip1 rfl ?_ | refine S.gskip rfl ?_ | refine S.y (Y.gskipU rfl) ?_); refine opsS_nil ?_; refine N.tn ?_) | refine Q.dT rfl rfl rfl ?_ | refine Q.dF rfl rfl rfl ?_ | (refine D.e rfl rfl rfl ?_; (first | (refine GQ.a ?_; refine Q.al (fun b1 => ?_)) | (refine GQ.s ?_; refine Q.st ?_)); refine opsS_nil ?_; refine N.tn ?_))
  refine Q.dF rfl rfl rfl ?_ (by cases bl <;> simp)
  repeat (first | refine D.endA ?_ | refine Q.dy rfl rfl rfl ?_ | refine Q.dp rfl rfl rfl ?_ | refine D.end_ ?_ | refine Q.endH ?_ | (refine D.e rfl rfl rfl ?_; (first | refine S.gskip1 rfl ?_ | refine S.gskip rfl ?_ | refine S.y (Y.gskipU rfl) ?_); refine opsS_nil ?_; refine N.tn ?_) | refine Q.dT rfl rfl rfl ?_ | refine Q.dF rfl rfl rfl ?_ | (refine D.e rfl rfl rfl ?_; (first | (refine GQ.a ?_; refine Q.al (fun b1 => ?_)) | (refine GQ.s ?_; refine Q.st ?_)); refine opsS_nil ?_; refine N.tn ?_))
  refine D.e rfl rfl rfl ?_
  refine S.guard rfl ?_
  refine S.cv v rfl (LastP_spec v st n _ hw hn) ?_
  rintro _ _ ⟨⟨m1, rfl, l1, l2, l3⟩, rfl⟩
  repeat (first | (refine GQ.y ?_; refine Q.y ?_) | refine Q.go ?_ | (refine GQ.g ?_; refine Q.gq ?_) | (refine GQ.s ?_; refine Q.st ?_) | (refine GQ.g ?_; refine Q.gd ?_) | refine Q.ct rfl ?_ | refine Q.cf rfl ?_ | (refine GQ.a ?_; refine Q.al (fun b1 => ?_)))
  repeat (first | refine D.endA ?_ | refine Q.dy rfl rfl rfl ?_ | refine Q.dp rfl rfl rfl ?_ | refine D.end_ ?_ | refine Q.endH ?_ | (refine D.e rfl rfl rfl ?_; (first | refine S.gskip1 rfl ?_ | refine S.gskip rfl ?_ | refine S.y (Y.gskipU rfl) ?_); refine opsS_nil ?_; refine N.tn ?_) | refine Q.dT rfl rfl rfl ?_ | refine Q.dF rfl rfl rfl ?_ | (refine D.e rfl rfl rfl ?_; (first | (refine GQ.a ?_; refine Q.al (fun b1 => ?_)) | (refine GQ.s ?_; refine Q.st ?_)); refine opsS_nil ?_; refine N.tn ?_))
  refine D.e rfl rfl rfl ?_
  refine S.guard rfl ?_
  refine opsS_ent (L' := rP p st.dim ra es rc ra' is rc' st.mark :: roM Mr :: slO 22 1 a1 ids.length c1 (ids.map U64) :: vaultH v st :: roM M :: A) (by repeat (first | exact Ent.refl _ | exact Ent.nil | refine Ent.pick ?_ | refine Ent.nilS ?_ | refine Ent.nilM ?_ | refine Ent.drop ?_)) ?_
  refine S.cr rfl (RLast_spec p st n Mr ra es rc ra' is rc' _ hok hw hn) ?_
  rintro _ _ ⟨⟨m2, rfl, k1, k2, k3⟩, rfl⟩
  obtain rfl := last_uniq l1 l2 l3 k1 k2 k3
  clear l1 l2 l3 k1 k2 k3
  repeat (first | (refine GQ.y ?_; refine Q.y ?_) | refine Q.go ?_ | (refine GQ.g ?_; refine Q.gq ?_) | (refine GQ.s ?_; refine Q.st ?_) | (refine GQ.g ?_; refine Q.gd ?_) | refine Q.ct rfl ?_ | refine Q.cf rfl ?_ | (refine GQ.a ?_; refine Q.al (fun b1 => ?_)))
  repeat (first | refine D.endA ?_ | refine Q.dy rfl rfl rfl ?_ | refine Q.dp rfl rfl rfl ?_ | refine D.end_ ?_ | refine Q.endH ?_ | (refine D.e rfl rfl rfl ?_; (first | refine S.gskip1 rfl ?_ | refine S.gskip rfl ?_ | refine S.y (Y.gskipU rfl) ?_); refine opsS_nil ?_; refine N.tn ?_) | refine Q.dT rfl rfl rfl ?_ | refine Q.dF rfl rfl rfl ?_ | (refine D.e rfl rfl rfl ?_; (first | (refine GQ.a ?_; refine Q.al (fun b1 => ?_)) | (refine GQ.s ?_; refine Q.st ?_)); refine opsS_nil ?_; refine N.tn ?_))
  repeat (first | (refine GQ.y ?_; refine Q.y ?_) | refine Q.go ?_ | (refine GQ.g ?_; refine Q.gq ?_) | (refine GQ.s ?_; refine Q.st ?_) | (refine GQ.g ?_; refine Q.gd ?_) | refine Q.ct rfl ?_ | refine Q.cf rfl ?_ | (refine GQ.a ?_; refine Q.al (fun b1 => ?_)))
  refine swp_ent (L' := rP p st.dim ra es rc ra' is rc' st.mark :: vaultH v st :: roM M :: roM Mr :: A) (by repeat (first | exact Ent.refl _ | exact Ent.nil | refine Ent.pick ?_ | refine Ent.nilS ?_ | refine Ent.nilM ?_ | refine Ent.drop ?_)) ?_
  refine Q.dgo [true, false, false, false] [1, 2, 7, 10, 11, 16, 20] [] [0, 3, 4, 5, 6, 1, 2, 7, 8, 9, 12, 13, 14, 15, 10, 11, 16, 17, 18, 19, 21, 22, 23, 24, 20, 25, 26, 27] ?_
  repeat (first | refine D.endA ?_ | refine Q.dy rfl rfl rfl ?_ | refine Q.dp rfl rfl rfl ?_ | refine D.end_ ?_ | refine Q.endH ?_ | (refine D.e rfl rfl rfl ?_; (first | refine S.gskip1 rfl ?_ | refine S.gskip rfl ?_ | refine S.y (Y.gskipU rfl) ?_); refine opsS_nil ?_; refine N.tn ?_) | refine Q.dT rfl rfl rfl ?_ | refine Q.dF rfl rfl rfl ?_ | (refine D.e rfl rfl rfl ?_; (first | (refine GQ.a ?_; refine Q.al (fun b1 => ?_)) | (refine GQ.s ?_; refine Q.st ?_)); refine opsS_nil ?_; refine N.tn ?_))
  refine D.e rfl rfl rfl ?_
  refine S.cv v rfl (IntentsO_spec v st n _ hw hn) ?_
  rintro _ _ ⟨a8, c8, is2, rfl, hp8, ho8, rfl⟩
  refine opsS_abs a8 (fun M1 hl1 hs8 => ?_)
  refine opsS_absI is2 (fun M2 hl2 hi8 => ?_)
  have hie : is2.map IV.abs = is.map IV.abs := perm_lt_eq (hp8.trans hok.its.symm) (by rw [List.map_map]; exact ho8) (by rw [List.map_map]; exact hok.ss)
  have hin : is2.length ≤ n := by
    have h1 := hp8.length_eq
    rw [List.length_map] at h1
    have := hw.il; omega
  have hiv : ∀ e ∈ is2, e.ops.length ≤ 1000000 ∧ ∀ u ∈ e.ops, u.vec.length ≤ 1000000 := fun e he => by
    have h1 := hw.io e.abs (hp8.mem_iff.1 (List.mem_map_of_mem he))
    refine ⟨by have := h1.1; simp at this; omega, fun u hu2 => ?_⟩
    have := (h1.2.2 u.abs (List.mem_map_of_mem hu2)).1
    dsimp only at this; omega
  repeat (first | (refine GQ.y ?_; refine Q.y ?_) | refine Q.go ?_ | (refine GQ.g ?_; refine Q.gq ?_) | (refine GQ.s ?_; refine Q.st ?_) | (refine GQ.g ?_; refine Q.gd ?_) | refine Q.ct rfl ?_ | refine Q.cf rfl ?_ | (refine GQ.a ?_; refine Q.al (fun b1 => ?_)))
  repeat (first | refine D.endA ?_ | refine Q.dy rfl rfl rfl ?_ | refine Q.dp rfl rfl rfl ?_ | refine D.end_ ?_ | refine Q.endH ?_ | (refine D.e rfl rfl rfl ?_; (first | refine S.gskip1 rfl ?_ | refine S.gskip rfl ?_ | refine S.y (Y.gskipU rfl) ?_); refine opsS_nil ?_; refine N.tn ?_) | refine Q.dT rfl rfl rfl ?_ | refine Q.dF rfl rfl rfl ?_ | (refine D.e rfl rfl rfl ?_; (first | (refine GQ.a ?_; refine Q.al (fun b1 => ?_)) | (refine GQ.s ?_; refine Q.st ?_)); refine opsS_nil ?_; refine N.tn ?_))
  refine D.e rfl rfl rfl ?_
  refine S.cr rfl (intents_spec a8 c8 is2 _ (hs8.mono hl2).rd (by omega)) ?_
  rintro _ _ ⟨a9, c9, rfl, rfl⟩
  refine opsS_abs a9 (fun M3 hl3 hs9 => ?_)
  repeat (first | (refine GQ.y ?_; refine Q.y ?_) | refine Q.go ?_ | (refine GQ.g ?_; refine Q.gq ?_) | (refine GQ.s ?_; refine Q.st ?_) | (refine GQ.g ?_; refine Q.gd ?_) | refine Q.ct rfl ?_ | refine Q.cf rfl ?_ | (refine GQ.a ?_; refine Q.al (fun b1 => ?_)))
  repeat (first | refine D.endA ?_ | refine Q.dy rfl rfl rfl ?_ | refine Q.dp rfl rfl rfl ?_ | refine D.end_ ?_ | refine Q.endH ?_ | (refine D.e rfl rfl rfl ?_; (first | refine S.gskip1 rfl ?_ | refine S.gskip rfl ?_ | refine S.y (Y.gskipU rfl) ?_); refine opsS_nil ?_; refine N.tn ?_) | refine Q.dT rfl rfl rfl ?_ | refine Q.dF rfl rfl rfl ?_ | (refine D.e rfl rfl rfl ?_; (first | (refine GQ.a ?_; refine Q.al (fun b1 => ?_)) | (refine GQ.s ?_; refine Q.st ?_)); refine opsS_nil ?_; refine N.tn ?_))
  refine D.e rfl rfl rfl ?_
  refine S.cr rfl (SameIntents_spec a9 c9 is2 ra' rc' is _ ⟨hs9.rd, fun e he => (okI.mono (hi8 e he) hl3).rd⟩ ⟨hok.sI.rd, fun e he => (hok.oi e he).rd⟩ (by omega) hiv hie) ?_
  rintro _ _ ⟨rfl, rfl⟩
  repeat (first | (refine GQ.y ?_; refine Q.y ?_) | refine Q.go ?_ | (refine GQ.g ?_; refine Q.gq ?_) | (refine GQ.s ?_; refine Q.st ?_) | (refine GQ.g ?_; refine Q.gd ?_) | refine Q.ct rfl ?_ | refine Q.cf rfl ?_ | (refine GQ.a ?_; refine Q.al (fun b1 => ?_)))
  repeat (first | refine D.endA ?_ | refine Q.dy rfl rfl rfl ?_ | refine Q.dp rfl rfl rfl ?_ | refine D.end_ ?_ | refine Q.endH ?_ | (refine D.e rfl rfl rfl ?_; (first | refine S.gskip1 rfl ?_ | refine S.gskip rfl ?_ | refine S.y (Y.gskipU rfl) ?_); refine opsS_nil ?_; refine N.tn ?_) | refine Q.dT rfl rfl rfl ?_ | refine Q.dF rfl rfl rfl ?_ | (refine D.e rfl rfl rfl ?_; (first | (refine GQ.a ?_; refine Q.al (fun b1 => ?_)) | (refine GQ.s ?_; refine Q.st ?_)); refine opsS_nil ?_; refine N.tn ?_))
  refine D.e rfl rfl rfl ?_
  refine S.guard rfl ?_
  refine S.cv v rfl (DumpO_spec v st n _ hw hn) ?_
  rintro _ _ ⟨a10, c10, es2, rfl, hp10, ho10, rfl⟩
  refine opsS_abs a10 (fun M4 hl4 hs10 => ?_)
  refine opsS_absE es2 (fun M5 hl5' hi10 => ?_)
  have hee : es2.map EV.abs = es.map EV.abs := perm_lt_eq (hp10.trans hok.ch.symm) (by rw [List.map_map]; exact ho10) (by rw [List.map_map]; exact hok.cs)
  have hen : es2.length ≤ 16 * n := by
    have h1 := hp10.length_eq
    rw [List.length_map] at h1
    have := hw.cl; omega
  have hev : ∀ e ∈ es2, e.vs.length ≤ 1000000 ∧ ∀ u ∈ e.vs, u.vec.length ≤ 1000000 := fun e he => by
    have h1 := hw.co e.abs (hp10.mem_iff.1 (List.mem_map_of_mem he))
    refine ⟨by have := h1.2.1; simp at this; omega, fun u hu2 => ?_⟩
    have := h1.2.2 u.abs (List.mem_map_of_mem hu2)
    dsimp only at this; omega
  repeat (first | (refine GQ.y ?_; refine Q.y ?_) | refine Q.go ?_ | (refine GQ.g ?_; refine Q.gq ?_) | (refine GQ.s ?_; refine Q.st ?_) | (refine GQ.g ?_; refine Q.gd ?_) | refine Q.ct rfl ?_ | refine Q.cf rfl ?_ | (refine GQ.a ?_; refine Q.al (fun b1 => ?_)))
  repeat (first | refine D.endA ?_ | refine Q.dy rfl rfl rfl ?_ | refine Q.dp rfl rfl rfl ?_ | refine D.end_ ?_ | refine Q.endH ?_ | (refine D.e rfl rfl rfl ?_; (first | refine S.gskip1 rfl ?_ | refine S.gskip rfl ?_ | refine S.y (Y.gskipU rfl) ?_); refine opsS_nil ?_; refine N.tn ?_) | refine Q.dT rfl rfl rfl ?_ | refine Q.dF rfl rfl rfl ?_ | (refine D.e rfl rfl rfl ?_; (first | (refine GQ.a ?_; refine Q.al (fun b1 => ?_)) | (refine GQ.s ?_; refine Q.st ?_)); refine opsS_nil ?_; refine N.tn ?_))
  refine D.e rfl rfl rfl ?_
  refine S.guard rfl ?_
  refine S.cr rfl (entries_spec a10 c10 es2 _ (hs10.mono hl5').rd (fun e he => ⟨(hi10 e he).1.rd, (hev e he).1⟩) (by omega)) ?_
  rintro _ _ ⟨a11, c11, us2, rfl, hmap, rfl⟩
  refine opsS_abs a11 (fun M6 hl6 hs11 => ?_)
  refine opsS_abs7 us2 (fun M7 hl7 hi11 => ?_)
  have hmem : ∀ e ∈ us2, ∃ f ∈ es2, f.vs = e.vs := fun e he => by
    have h1 : (e.id, e.vs) ∈ es2.map (fun e => (e.id, e.vs)) := by rw [← hmap]; exact List.mem_map_of_mem (f := fun e : EV => (e.id, e.vs)) he
    obtain ⟨f, hf, h2⟩ := List.mem_map.1 h1
    exact ⟨f, hf, congrArg Prod.snd h2⟩
  have hue : us2.map EV.abs = es.map EV.abs := by
    rw [← hee]
    have h1 := congrArg (List.map fun u : Int × List OV => (u.1, u.2.map OV.abs)) hmap
    rw [List.map_map, List.map_map] at h1
    exact h1
  have hun : us2.length ≤ 16 * n := by
    have h1 := congrArg List.length hmap
    rw [List.length_map, List.length_map] at h1
    omega
  repeat (first | (refine GQ.y ?_; refine Q.y ?_) | refine Q.go ?_ | (refine GQ.g ?_; refine Q.gq ?_) | (refine GQ.s ?_; refine Q.st ?_) | (refine GQ.g ?_; refine Q.gd ?_) | refine Q.ct rfl ?_ | refine Q.cf rfl ?_ | (refine GQ.a ?_; refine Q.al (fun b1 => ?_)))
  repeat (first | refine D.endA ?_ | refine Q.dy rfl rfl rfl ?_ | refine Q.dp rfl rfl rfl ?_ | refine D.end_ ?_ | refine Q.endH ?_ | (refine D.e rfl rfl rfl ?_; (first | refine S.gskip1 rfl ?_ | refine S.gskip rfl ?_ | refine S.y (Y.gskipU rfl) ?_); refine opsS_nil ?_; refine N.tn ?_) | refine Q.dT rfl rfl rfl ?_ | refine Q.dF rfl rfl rfl ?_ | (refine D.e rfl rfl rfl ?_; (first | (refine GQ.a ?_; refine Q.al (fun b1 => ?_)) | (refine GQ.s ?_; refine Q.st ?_)); refine opsS_nil ?_; refine N.tn ?_))
  refine D.e rfl rfl rfl ?_
  refine S.guard rfl ?_
  refine S.cr rfl (SameEntries_spec a11 c11 us2 ra rc es _ ⟨(hs11.mono hl7).rd, fun e he => ⟨(hi11 e he).rd, fun o ho => ?_⟩⟩ ⟨hok.sE.rd, fun e he => ⟨(hok.oe e he).1.rd, fun o ho => ((hok.oe e he).2 o ho).rd⟩⟩ (by omega) (fun e he => ?_) hue) ?_
  · obtain ⟨f, hf, h2⟩ := hmem e he
    exact (((hi10 f hf).2 o (by rw [h2]; exact ho)).mono (hl6.trans hl7)).rd
  · obtain ⟨f, hf, h2⟩ := hmem e he
    rw [← h2]; exact hev f hf
  rintro _ _ ⟨rfl, rfl⟩
  repeat (first | (refine GQ.y ?_; refine Q.y ?_) | refine Q.go ?_ | (refine GQ.g ?_; refine Q.gq ?_) | (refine GQ.s ?_; refine Q.st ?_) | (refine GQ.g ?_; refine Q.gd ?_) | refine Q.ct rfl ?_ | refine Q.cf rfl ?_ | (refine GQ.a ?_; refine Q.al (fun b1 => ?_)))
  repeat (first | refine D.endA ?_ | refine Q.dy rfl rfl rfl ?_ | refine Q.dp rfl rfl rfl ?_ | refine D.end_ ?_ | refine Q.endH ?_ | (refine D.e rfl rfl rfl ?_; (first | refine S.gskip1 rfl ?_ | refine S.gskip rfl ?_ | refine S.y (Y.gskipU rfl) ?_); refine opsS_nil ?_; refine N.tn ?_) | refine Q.dT rfl rfl rfl ?_ | refine Q.dF rfl rfl rfl ?_ | (refine D.e rfl rfl rfl ?_; (first | (refine GQ.a ?_; refine Q.al (fun b1 => ?_)) | (refine GQ.s ?_; refine Q.st ?_)); refine opsS_nil ?_; refine N.tn ?_))
  refine D.e rfl rfl rfl ?_
  refine S.guard rfl ?_
  refine S.cv v rfl (Mark_spec v st _) ?_
  rintro _ _ ⟨rfl, rfl⟩
  repeat (first | (refine GQ.y ?_; refine Q.y ?_) | refine Q.go ?_ | (refine GQ.g ?_; refine Q.gq ?_) | (refine GQ.s ?_; refine Q.st ?_) | (refine GQ.g ?_; refine Q.gd ?_) | refine Q.ct rfl ?_ | refine Q.cf rfl ?_ | (refine GQ.a ?_; refine Q.al (fun b1 => ?_)))
  repeat (first | refine D.endA ?_ | refine Q.dy rfl rfl rfl ?_ | refine Q.dp rfl rfl rfl ?_ | refine D.end_ ?_ | refine Q.endH ?_ | (refine D.e rfl rfl rfl ?_; (first | refine S.gskip1 rfl ?_ | refine S.gskip rfl ?_ | refine S.y (Y.gskipU rfl) ?_); refine opsS_nil ?_; refine N.tn ?_) | refine Q.dT rfl rfl rfl ?_ | refine Q.dF rfl rfl rfl ?_ | (refine D.e rfl rfl rfl ?_; (first | (refine GQ.a ?_; refine Q.al (fun b1 => ?_)) | (refine GQ.s ?_; refine Q.st ?_)); refine opsS_nil ?_; refine N.tn ?_))
  repeat (first | (refine GQ.y ?_; refine Q.y ?_) | refine Q.go ?_ | (refine GQ.g ?_; refine Q.gq ?_) | (refine GQ.s ?_; refine Q.st ?_) | (refine GQ.g ?_; refine Q.gd ?_) | refine Q.ct rfl ?_ | refine Q.cf rfl ?_ | (refine GQ.a ?_; refine Q.al (fun b1 => ?_)))
  refine N.r1 (RV.tmp rfl RV.nil) ?_ ⟨by simp, M7, hl1.trans (hl2.trans (hl3.trans (hl4.trans (hl5'.trans (hl6.trans hl7))))), rfl⟩
  refine Ent.trans (?_ : Ent _ (rP p st.dim ra es rc ra' is rc' st.mark :: roM Mr :: vaultH v st :: roM M7 :: A)) (Ent.trans (ref_shut hok) (Ent.perm (.swap _ _ _)))
  repeat (first | exact Ent.refl _ | exact Ent.nil | refine Ent.pick ?_ | refine Ent.nilS ?_ | refine Ent.nilM ?_ | refine Ent.drop ?_)
def DOK (M : Nat → Option Obj) (o : DV) : Prop := (SlM M o.a o.ops.length 2 (o.ops.flatMap OV.cells) ∧ okR M o.ops) ∧ (∀ u ∈ o.ops, u.vec.length ≤ u.c) ∧ o.ops.length ≤ 9223372036854775807 ∧ 0 ≤ o.stamp ∧ SlM M o.ia o.ids.length 1 (o.ids.map U64) ∧ o.ids.length ≤ o.ic ∧ o.ids.length ≤ 9223372036854775807
theorem DOK.mono {M M' : Nat → Option Obj} {o : DV} (h : DOK M o) (hl : leM M M') : DOK M' o :=
  ⟨⟨h.1.1.mono hl, fun u hu => (h.1.2 u hu).mono hl⟩, h.2.1, h.2.2.1, h.2.2.2.1, h.2.2.2.2.1.mono hl, h.2.2.2.2.2⟩
end Go.Proofs.YtieejgbjgcbbjaaGreat
