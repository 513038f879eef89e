/- The vault: Intents, Dump, as what they give is owned. No condition. -/
import Derived.Test.YtjidejcehmamkaaDoorVtV
set_option linter.unusedVariables false
set_option linter.unusedSimpArgs false
namespace Go.Proofs.YtjidejcehmamkaaDoor
open Go Go.SX
attribute [local irreducible] swp opsS thenS blockS retS CallsS St Ent YieldS anyS drawS
theorem allH_out {A : HP} {l L : List HP} : Ent (allH (A :: l) :: L) (A :: allH l :: L) := Ent.trans Ent.open_all (Ent.cons Ent.shut_all)
theorem allH_in {A : HP} {l L : List HP} : Ent (A :: allH l :: L) (allH (A :: l) :: L) := Ent.trans (Ent.cons Ent.open_all) (Ent.shut_all (L := A :: l))
theorem allH_snoc {A : HP} {l L : List HP} : Ent (A :: allH l :: L) (allH (l ++ [A]) :: L) := by
  refine Ent.trans (Ent.cons Ent.open_all) (Ent.trans ?_ Ent.shut_all)
  rw [List.append_assoc]
  exact Ent.perm List.perm_middle.symm
abbrev opsH (e : IV) : HP := allH [slO 73 2 e.a e.ops.length e.c (e.ops.flatMap OV.cells), vecsH e.ops]
abbrev itsH (es : List IV) : HP := allH (es.map opsH)
abbrev verH (e : EV) : HP := allH [slO 97 2 e.a e.vs.length e.c (e.vs.flatMap OV.cells), vecsH e.vs]
abbrev entH (es : List EV) : HP := allH (es.map verH)
theorem pair_in {A B : HP} {L : List HP} : Ent (A :: B :: L) (allH [A, B] :: L) := Ent.shut_all (L := [A, B])
theorem pair_out {A B : HP} {L : List HP} : Ent (allH [A, B] :: L) (A :: B :: L) := Ent.open_all
theorem its_snoc {es : List IV} {e : IV} {L : List HP} : Ent (slO 73 2 e.a e.ops.length e.c (e.ops.flatMap OV.cells) :: vecsH e.ops :: itsH es :: L) (itsH (es ++ [e]) :: L) := by
  show Ent _ (allH ((es ++ [e]).map opsH) :: L)
  rw [List.map_append, List.map_cons, List.map_nil]
  exact Ent.trans pair_in allH_snoc
theorem ent_snoc {es : List EV} {e : EV} {L : List HP} : Ent (slO 97 2 e.a e.vs.length e.c (e.vs.flatMap OV.cells) :: vecsH e.vs :: entH es :: L) (entH (es ++ [e]) :: L) := by
  show Ent _ (allH ((es ++ [e]).map verH) :: L)
  rw [List.map_append, List.map_cons, List.map_nil]
  exact Ent.trans pair_in allH_snoc
theorem perm_keys {α : Type} {m m' : List (Int × α)} (h : keysOK m) (hn : (m'.map (·.1)).Perm (m.map (·.1))) (hs : ∀ u ∈ m', u ∈ m) : m'.Perm m := by
  have hn' : keysOK m' := hn.nodup_iff.2 h
  refine (List.perm_ext_iff_of_nodup (keys_nodup hn') (keys_nodup h)).2 fun u => ⟨hs u, fun hu => ?_⟩
  obtain ⟨w, hw, e⟩ := List.mem_map.1 (hn.mem_iff.2 (List.mem_map_of_mem hu))
  have h1 := (lkL_iff h).2 (show (w.1, w.2) ∈ m from hs w hw)
  have h2 := (lkL_iff h).2 (show (u.1, u.2) ∈ m from hu)
  rw [e, h2] at h1
  have h3 : w = u := Prod.ext e (Option.some.inj h1).symm
  rw [← h3]; exact hw
theorem nodup_lt {l : List Int} (h : l.Nodup) (hs : l.Pairwise (· ≤ ·)) : l.Pairwise (· < ·) :=
  (hs.and h).imp fun ⟨h1, h2⟩ => by omega
set_option maxHeartbeats 2000000 in
theorem IntentsO_spec (v : Nat) (st : VS) (n : Nat) (L : List HP) (hw : WF st n) (hn : n ≤ 10000) :
    CallsS Tryd.prog 63 [ptrV v] (vaultH v st :: L) (fun r L' => ∃ (a : Option Addr) (c : Nat) (es : List IV), r = .slice a es.length c ∧ (es.map IV.abs).Perm st.its ∧ (es.map (·.txn)).Pairwise (· < ·) ∧ L' = slO 66 3 a es.length c (es.flatMap IV.cells) :: itsH es :: vaultH v st :: L) := by
  refine calls_vault fun mc mi M cs is hok => ?_
  have hcl : is.length = st.its.length := by rw [← hok.its]; simp
  have hcn : is.length ≤ n := by rw [hcl]; exact hw.il
  refine CallsS.of_body Tryd.func63 rfl rfl rfl ?_
  refine Q.r ?_; (repeat (intro b1; refine Q.r ?_))
  refine S.cr rfl (MapKeysI_spec (some mi) _) ?_
  rintro _ _ ⟨bm, rfl, rfl⟩
  refine Q.r ?_; (repeat (intro b1; refine Q.r ?_))
  have hs := KeysI_spec IV.val bm mi (is.map fun i => (i.txn, i)) (vP v mc mi st.dim st.mark :: vC mc cs :: chsH M cs :: roM M :: L)
  rw [List.length_map, List.map_map] at hs
  refine opsS_ent (L' := pt bm (cl [.map (some mi)] 75) :: vI mi is :: vP v mc mi st.dim st.mark :: vC mc cs :: chsH M cs :: roM M :: L) (by repeat (first | exact Ent.refl _ | exact Ent.nil | refine Ent.pick ?_ | refine Ent.nilS ?_ | refine Ent.nilM ?_ | refine Ent.drop ?_)) ?_
  refine S.cr rfl (Sorted_spec _ _ (is.map (·.txn)) _ _ (by rw [List.length_map]; omega) (by rw [List.length_map]; exact hs)) ?_
  rintro _ _ ⟨a, c, rfl, rfl⟩
  rw [List.length_map]
  refine Q.r ?_; (repeat (intro b1; refine Q.r ?_))
  obtain ⟨ks, hks⟩ : ∃ ks, ks = sortL (is.map (·.txn)) := ⟨_, rfl⟩
  have hkl : ks.length = is.length := by rw [hks, sortL_len, List.length_map]
  rw [← hks]
  have hkm : ∀ x ∈ ks, ∃ u ∈ is, u.txn = x := fun x hx => by
    rw [hks] at hx
    obtain ⟨u, hu, e⟩ := List.mem_map.1 ((sortL_perm _).mem_iff.1 hx)
    exact ⟨u, hu, e⟩
  have hkp : ks.Perm (is.map (·.txn)) := by rw [hks]; exact sortL_perm _
  have hin : (is.map (·.txn)).Nodup := by
    have := hok.k2
    unfold keysOK at this
    rw [← hok.its, List.map_map] at this
    exact this
  have hks2 : ks.Pairwise (· < ·) := nodup_lt (hkp.nodup_iff.2 hin) (by rw [hks]; exact sortL_sorted _)
  clear hks hs
  refine swp_addr a (fun ha => ?_)
  rw [← hkl] at ha ⊢
  refine swp_cutB (σ := Option Addr × Nat × List IV) (fun u => [(3, .slice u.1 u.2.2.length u.2.1)]) (fun u => slO 66 3 u.1 u.2.2.length u.2.1 (u.2.2.flatMap IV.cells) :: itsH u.2.2 :: vP v mc mi st.dim st.mark :: vC mc cs :: vI mi is :: chsH M cs :: roM M :: L) (fun u => u.2.2.map (·.txn) = ks ∧ ∀ e ∈ u.2.2, e.abs ∈ st.its) ?_ ?_
  · refine swp_loop (σ := Nat × Option Addr × Nat × List IV) (fun u => [(0, ptrV v), (13, .slice a ks.length c), (14, .int .i64 ks.length), (3, .slice u.2.1 u.2.2.2.length u.2.2.1), (15, .int .i64 u.1)])
      (fun u => slO 30 1 a ks.length c (ks.map U64) :: slO 66 3 u.2.1 u.2.2.2.length u.2.2.1 (u.2.2.2.flatMap IV.cells) :: itsH u.2.2.2 :: vP v mc mi st.dim st.mark :: vC mc cs :: vI mi is :: chsH M cs :: roM M :: L)
      (fun u => u.1 ≤ ks.length ∧ u.2.2.2.map (·.txn) = ks.take u.1 ∧ ∀ e ∈ u.2.2.2, e.abs ∈ st.its) (fun u => ks.length - u.1) (0, none, 0, []) ⟨rfl, rfl, rfl, rfl, rfl, trivial⟩ ?_ ⟨by omega, by simp, by simp⟩ ?_
    · refine Ent.cons (Ent.trans (Ent.trans ?_ (Ent.shut_all (L := []))) slO_nil)
      repeat (first | exact Ent.refl _ | exact Ent.nil | refine Ent.pick ?_ | refine Ent.nilS ?_ | refine Ent.nilM ?_ | refine Ent.drop ?_)
    rintro ⟨k, a3, c3, es⟩ ⟨hk, hes, hall⟩
    dsimp only at hk hes hall ⊢
    have hesl : es.length = k := by
      have := congrArg List.length hes
      simp at this; omega
    by_cases hlt : k < ks.length
    · obtain ⟨x, hx⟩ := mem_get hlt
      obtain ⟨u, hu, hux⟩ := hkm x (List.mem_of_getElem? hx)
      rcases ha with ha | ⟨b, rfl⟩
      · omega
      cases hz : lkL (is.map fun i => (i.txn, i)) x with
      | none => exact absurd hux (lk_none' hz _ (List.mem_map_of_mem (f := fun i : IV => (i.txn, i)) hu))
      | some y =>
        obtain ⟨hmy, hyt⟩ := lk_mem hz
        have hr : RdC (slO 30 1 (some ⟨b, 0, none⟩) ks.length c (ks.map U64) :: slO 66 3 a3 es.length c3 (es.flatMap IV.cells) :: itsH es :: vP v mc mi st.dim st.mark :: vC mc cs :: vI mi is :: chsH M cs :: roM M :: L) b (0 + k * 1) (cU x) := RdC.elem (g := cU) (fun _ => rfl) (by rw [flat_U]; exact RdC.ofS) hx
        have hyi : y.abs ∈ st.its := by rw [← hok.its]; exact List.mem_map_of_mem hmy
        have hio := hw.io y.abs hyi
        have hyl : y.ops.length ≤ 16 := by simpa using hio.1
        refine Q.r ?_; (repeat (intro b1; refine Q.r ?_))
        refine S.y (Y.lk false rfl rfl (fun w => Tryd.zeroValue66 w)) ?_
        rw [hz]
        dsimp only
        refine S.cr rfl (copyOf_spec y _ ((hok.ok y hmy).rd) (by omega) (fun o ho => by have := (hio.2.2 o.abs (List.mem_map_of_mem (f := OV.abs) ho)).1; dsimp only at this; omega)) ?_
        rintro _ _ ⟨a5, c5, us, hus, rfl, rfl⟩
        refine Q.r ?_; (repeat (intro b1; refine Q.r ?_))
        refine S.app rfl rfl (SrcS.sl RdC.row (by rfl) (by rfl)) (by rfl) (by omega) (by omega) (fun a4 c4 => ?_)
        refine Q.r ?_; (repeat (intro b1; refine Q.r ?_))
        refine ⟨(k + 1, a4, c4, es ++ [⟨y.txn, y.after, a5, c5, us⟩]), ⟨rfl, rfl, rfl, congrArg some (by simp), rfl, trivial⟩, ?_, ⟨by dsimp only; omega, ?_, fun e he => ?_⟩, by dsimp only; omega⟩
        · dsimp only
          rw [len_snoc, flat_snoc]
          refine Ent.trans ?_ (Ent.cons (Ent.cons its_snoc))
          dsimp only
          repeat (first | exact Ent.refl _ | exact Ent.nil | refine Ent.pick ?_ | refine Ent.nilS ?_ | refine Ent.nilM ?_ | refine Ent.drop ?_)
        · dsimp only
          rw [List.map_append, hes, take_snoc hx, List.map_cons, List.map_nil, hyt]
        · rcases List.mem_append.1 he with he | he
          · exact hall e he
          · obtain rfl := List.mem_singleton.1 he
            show (y.txn, y.after, us.map OV.abs) ∈ st.its
            rw [hus]; exact hyi
    · have hke : k = ks.length := by omega
      subst hke
      rw [List.take_length] at hes
      refine Q.r ?_; (repeat (intro b1; refine Q.r ?_))
      exact ⟨(a3, c3, es), ⟨congrArg some (by simp), trivial⟩, by repeat (first | exact Ent.refl _ | exact Ent.nil | refine Ent.pick ?_ | refine Ent.nilS ?_ | refine Ent.nilM ?_ | refine Ent.drop ?_), hes, hall⟩
  rintro ⟨a3, c3, es⟩ ⟨hes, hall⟩
  dsimp only at hes hall ⊢
  refine Q.r ?_; (repeat (intro b1; refine Q.r ?_))
  refine N.r1 (RV.tmp rfl RV.nil) ?_ ⟨a3, c3, es, rfl, ?_, by rw [hes]; exact hks2, rfl⟩
  · refine Ent.cons (Ent.cons ?_)
    exact vault_shut (mc := mc) (mi := mi) hok
  · refine perm_keys hok.k2 ?_ (fun u hu => by obtain ⟨w, hw, rfl⟩ := List.mem_map.1 hu; exact hall w hw)
    rw [← hok.its, List.map_map, List.map_map]
    show (es.map (·.txn)).Perm (is.map (·.txn))
    rw [hes]; exact hkp
set_option maxHeartbeats 2000000 in
theorem DumpO_spec (v : Nat) (st : VS) (n : Nat) (L : List HP) (hw : WF st n) (hn : n ≤ 10000) :
    CallsS Tryd.prog 64 [ptrV v] (vaultH v st :: L) (fun r L' => ∃ (a : Option Addr) (c : Nat) (es : List EV), r = .slice a es.length c ∧ (es.map EV.abs).Perm st.ch ∧ (es.map (·.id)).Pairwise (· < ·) ∧ L' = slO 118 2 a es.length c (es.flatMap EV.cells) :: entH es :: vaultH v st :: L) := by
  refine calls_vault fun mc mi M cs is hok => ?_
  have hcl : cs.length = st.ch.length := by rw [← hok.ch]; simp
  have hcn : cs.length ≤ 16 * n := by rw [hcl]; exact hw.cl
  refine CallsS.of_body Tryd.func64 rfl rfl rfl ?_
  refine Q.r ?_; (repeat (intro b1; refine Q.r ?_))
  refine S.cr rfl (Ids_spec v mc mi st.dim st.mark cs _ (by omega)) ?_
  rintro _ _ ⟨a, c, rfl, rfl⟩
  refine Q.r ?_; (repeat (intro b1; refine Q.r ?_))
  obtain ⟨ks, hks⟩ : ∃ ks, ks = sortL (cs.map (·.1)) := ⟨_, rfl⟩
  have hkl : ks.length = cs.length := by rw [hks, sortL_len, List.length_map]
  rw [← hks]
  have hkm : ∀ x ∈ ks, ∃ u ∈ cs, u.1 = x := fun x hx => by
    rw [hks] at hx
    obtain ⟨u, hu, e⟩ := List.mem_map.1 ((sortL_perm _).mem_iff.1 hx)
    exact ⟨u, hu, e⟩
  have hkk : keysOK (cs.map fun c => (c.1, c.2.2)) := by rw [hok.ch]; exact hok.k1
  have hin : (cs.map (·.1)).Nodup := by
    unfold keysOK at hkk
    rw [List.map_map] at hkk
    exact hkk
  have hkp : ks.Perm (cs.map (·.1)) := by rw [hks]; exact sortL_perm _
  have hks2 : ks.Pairwise (· < ·) := nodup_lt (by rw [hks]; exact (sortL_perm _).nodup_iff.2 hin) (by rw [hks]; exact sortL_sorted _)
  clear hks
  refine swp_addr a (fun ha => ?_)
  rw [← hkl] at ha ⊢
  refine swp_cutB (σ := Option Addr × Nat × List EV) (fun u => [(3, .slice u.1 u.2.2.length u.2.1)]) (fun u => slO 118 2 u.1 u.2.2.length u.2.1 (u.2.2.flatMap EV.cells) :: entH u.2.2 :: vP v mc mi st.dim st.mark :: vC mc cs :: vI mi is :: chsH M cs :: roM M :: L) (fun u => u.2.2.map (·.id) = ks ∧ ∀ e ∈ u.2.2, e.abs ∈ st.ch) ?_ ?_
  · refine swp_loop (σ := Nat × Option Addr × Nat × List EV) (fun u => [(0, ptrV v), (9, .slice a ks.length c), (10, .int .i64 ks.length), (3, .slice u.2.1 u.2.2.2.length u.2.2.1), (11, .int .i64 u.1)])
      (fun u => slO 30 1 a ks.length c (ks.map U64) :: slO 118 2 u.2.1 u.2.2.2.length u.2.2.1 (u.2.2.2.flatMap EV.cells) :: entH u.2.2.2 :: vP v mc mi st.dim st.mark :: vC mc cs :: vI mi is :: chsH M cs :: roM M :: L)
      (fun u => u.1 ≤ ks.length ∧ u.2.2.2.map (·.id) = ks.take u.1 ∧ ∀ e ∈ u.2.2.2, e.abs ∈ st.ch) (fun u => ks.length - u.1) (0, none, 0, []) ⟨rfl, rfl, rfl, rfl, rfl, trivial⟩ ?_ ⟨by omega, by simp, by simp⟩ ?_
    · refine Ent.cons (Ent.trans (Ent.trans ?_ (Ent.shut_all (L := []))) slO_nil)
      repeat (first | exact Ent.refl _ | exact Ent.nil | refine Ent.pick ?_ | refine Ent.nilS ?_ | refine Ent.nilM ?_ | refine Ent.drop ?_)
    rintro ⟨k, a3, c3, es⟩ ⟨hk, hes, hall⟩
    dsimp only at hk hes hall ⊢
    have hesl : es.length = k := by
      have := congrArg List.length hes
      simp at this; omega
    by_cases hlt : k < ks.length
    · obtain ⟨x, hx⟩ := mem_get hlt
      obtain ⟨u, hu, hux⟩ := hkm x (List.mem_of_getElem? hx)
      rcases ha with ha | ⟨b, rfl⟩
      · omega
      rcases cr_case cs hkk x with ⟨p, q, b2, vs, e0, e1, e2, e3, e4⟩ | ⟨e1, e2, e3⟩
      · have hr : RdC (slO 30 1 (some ⟨b, 0, none⟩) ks.length c (ks.map U64) :: slO 118 2 a3 es.length c3 (es.flatMap EV.cells) :: entH es :: vP v mc mi st.dim st.mark :: vC mc cs :: vI mi is :: chsH M cs :: roM M :: L) b (0 + k * 1) (cU x) := RdC.elem (g := cU) (fun _ => rfl) (by rw [flat_U]; exact RdC.ofS) hx
        have hmc : (x, b2, vs) ∈ cs := by rw [e0]; simp
        obtain ⟨R, hR⟩ := chs_mem (M := M) hmc
        have hxs : (x, vs) ∈ st.ch := by rw [← hok.ch]; exact List.mem_map_of_mem (f := fun c : CR => (c.1, c.2.2)) hmc
        have hco := hw.co (x, vs) hxs
        refine Q.r ?_; (repeat (intro b1; refine Q.r ?_))
        refine S.y (Y.lk false rfl rfl (fun w => Tryd.zeroValue92 w)) ?_
        rw [e1]
        dsimp only
        refine opsS_ent (L' := chainH M b2 vs :: roM M :: R :: slO 30 1 (some ⟨b, 0, none⟩) ks.length c (ks.map U64) :: slO 118 2 a3 es.length c3 (es.flatMap EV.cells) :: entH es :: vP v mc mi st.dim st.mark :: vC mc cs :: vI mi is :: L) ?_ ?_
        · refine Ent.trans (?_ : Ent _ (chsH M cs :: roM M :: slO 30 1 (some ⟨b, 0, none⟩) ks.length c (ks.map U64) :: slO 118 2 a3 es.length c3 (es.flatMap EV.cells) :: entH es :: vP v mc mi st.dim st.mark :: vC mc cs :: vI mi is :: L)) ?_
          · repeat (first | exact Ent.refl _ | exact Ent.nil | refine Ent.pick ?_ | refine Ent.nilS ?_ | refine Ent.nilM ?_ | refine Ent.drop ?_)
          exact (hR _).1.trans (Ent.cons (Ent.perm (.swap _ _ _)))
        refine S.cr rfl (List_spec M b2 vs _ (by have := hco.2.1; dsimp only at this; omega) (fun w hw => by have := hco.2.2 w hw; omega)) ?_
        rintro _ _ ⟨a5, c5, ovs, hov, rfl, rfl⟩
        refine Q.r ?_; (repeat (intro b1; refine Q.r ?_))
        refine S.app rfl rfl (SrcS.sl RdC.row (by rfl) (by rfl)) (by rfl) (by omega) (by omega) (fun a4 c4 => ?_)
        refine Q.r ?_; (repeat (intro b1; refine Q.r ?_))
        refine ⟨(k + 1, a4, c4, es ++ [⟨x, a5, c5, ovs⟩]), ⟨rfl, rfl, rfl, congrArg some (by simp), rfl, trivial⟩, ?_, ⟨by dsimp only; omega, ?_, fun e he => ?_⟩, by dsimp only; omega⟩
        · dsimp only
          rw [len_snoc, flat_snoc]
          refine Ent.trans ?_ (Ent.cons (Ent.cons ent_snoc))
          dsimp only
          unfold vecsH
          refine Ent.pick (Ent.pick (Ent.pick (Ent.pick (Ent.pick (Ent.pick (Ent.pick (Ent.pick ?_)))))))
          refine Ent.trans ?_ (hR _).2
          repeat (first | exact Ent.refl _ | exact Ent.nil | refine Ent.pick ?_ | refine Ent.nilS ?_ | refine Ent.nilM ?_ | refine Ent.drop ?_)
        · dsimp only
          rw [List.map_append, hes, take_snoc hx, List.map_cons, List.map_nil]
        · rcases List.mem_append.1 he with he | he
          · exact hall e he
          · obtain rfl := List.mem_singleton.1 he
            show (x, ovs.map OV.abs) ∈ st.ch
            rw [hov]; exact hxs
      · exact absurd hux (e3 u hu)
    · have hke : k = ks.length := by omega
      subst hke
      rw [List.take_length] at hes
      refine Q.r ?_; (repeat (intro b1; refine Q.r ?_))
      exact ⟨(a3, c3, es), ⟨congrArg some (by simp), trivial⟩, by repeat (first | exact Ent.refl _ | exact Ent.nil | refine Ent.pick ?_ | refine Ent.nilS ?_ | refine Ent.nilM ?_ | refine Ent.drop ?_), hes, hall⟩
  rintro ⟨a3, c3, es⟩ ⟨hes, hall⟩
  dsimp only at hes hall ⊢
  refine Q.r ?_; (repeat (intro b1; refine Q.r ?_))
  refine N.r1 (RV.tmp rfl RV.nil) (Ent.cons (Ent.cons (vault_shut hok))) ⟨a3, c3, es, rfl, ?_, by rw [hes]; exact hks2, rfl⟩
  refine perm_keys hok.k1 ?_ (fun u hu => by obtain ⟨w, hw, rfl⟩ := List.mem_map.1 hu; exact hall w hw)
  rw [← hok.ch, List.map_map, List.map_map]
  show (es.map (·.id)).Perm (cs.map (·.1))
  rw [hes]; exact hkp
end Go.Proofs.YtjidejcehmamkaaDoor
