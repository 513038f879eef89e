/- Chains: Clone of versions, Sweep. No condition. -/
import Derived.Test.YtjidejcehmamkaaDoorVtM
set_option linter.unusedVariables false
set_option linter.unusedSimpArgs false
namespace Go.Proofs.YtjidejcehmamkaaDoor
open Go Go.SX
attribute [local irreducible] swp opsS thenS blockS retS CallsS St Ent YieldS anyS drawS
theorem CloneV_spec (a : Option Addr) (c : Nat) (xs : List OV) (A : List HP) (h : RdS A a xs.length 2 (xs.flatMap OV.cells)) (hn : xs.length ≤ 1000000) :
    CallsS Tryd.prog 58 [.slice a xs.length c] A (fun v L' => ∃ a' c', v = .slice a' xs.length c' ∧ L' = slO 97 2 a' xs.length c' (xs.flatMap OV.cells) :: A) := by
  refine CallsS.of_body Tryd.func58 rfl rfl rfl ?_
  cases a with
  | none =>
    have hx : xs = [] := by
      rcases h.2 with h0 | ⟨_, _, h0, _⟩
      · exact List.eq_nil_of_length_eq_zero h0
      · cases h0
    subst hx
    refine Q.r ?_; (repeat (intro b1; refine Q.r ?_))
    exact N.r1 (RV.tmp rfl RV.nil) slO_nil ⟨none, 0, rfl, rfl⟩
  | some ad =>
    refine Q.r ?_; (repeat (intro b1; refine Q.r ?_))
    refine opsS_ent (slO_fold (sz := 2) (m := 0) rfl) ?_
    refine S.app0 rfl rfl rfl (SrcS.rd h.sub (OV_one _)) (by rfl) (by omega) (by omega) (fun a5 c5 => ?_)
    refine Q.r ?_; (repeat (intro b1; refine Q.r ?_))
    exact N.r1 (RV.tmp rfl RV.nil) (Ent.refl _) ⟨a5, c5, rfl, rfl⟩
theorem flat_len2 : ∀ (l : List OV), (l.flatMap OV.cells).length = l.length * 2
  | [] => rfl
  | o :: l => by rw [List.flatMap_cons, List.length_append, flat_len2 l, List.length_cons]; simp; omega
def cutN (vs : VL) (s : Int) : Nat := if aftN vs s = 0 then 0 else if 0 < (((vs[aftN vs s - 1]?).map (·.2)).getD []).length then aftN vs s - 1 else aftN vs s
theorem cut_le (vs : VL) (s : Int) : cutN vs s ≤ vs.length := by
  unfold cutN
  have := aft_le vs s
  split
  · omega
  · split <;> omega
set_option maxHeartbeats 2000000 in
theorem ChSweep_spec (M : Nat → Option Obj) (p : Nat) (vs : VL) (s : Int) (L : List HP) (hs : sortedV vs) (hn : vs.length ≤ 1000000) :
    CallsS Tryd.prog 38 [.pointer (some ⟨p, 0, none⟩), .int .u64 s] (chainH M p vs :: L)
      (fun v L' => ∃ a c, v = .slice a (cutN vs s) c ∧ L' = slO 30 1 a (cutN vs s) c (((vs.take (cutN vs s)).map (·.1)).map U64) :: chainH M p (vs.drop (cutN vs s)) :: L) := by
  refine calls_chain fun a c ovs h1 h2 => ?_
  subst h1
  rw [List.length_map] at hn
  refine CallsS.addr a fun ha => ?_
  refine CallsS.of_body Tryd.func38 rfl rfl rfl ?_
  refine Q.r ?_; (repeat (intro b1; refine Q.r ?_))
  refine S.cr rfl (after_spec' p a c ovs s L hs hn) ?_
  rintro _ _ ⟨rfl, rfl⟩
  have hle := aft_le (ovs.map OV.abs) s
  rw [List.length_map] at hle
  obtain ⟨n, hnn⟩ : ∃ n, n = aftN (ovs.map OV.abs) s := ⟨_, rfl⟩
  obtain ⟨m, hm⟩ : ∃ m, m = cutN (ovs.map OV.abs) s := ⟨_, rfl⟩
  have hmle : m ≤ ovs.length := by rw [hm]; have := cut_le (ovs.map OV.abs) s; simpa using this
  rw [← hnn] at hle ⊢
  rw [← hm]
  unfold cutN at hm
  rw [← hnn] at hm
  repeat (first | (refine GQ.y ?_; refine Q.y ?_) | refine Q.go ?_ | (refine GQ.g ?_; refine Q.gq ?_) | (refine GQ.s ?_; refine Q.st ?_) | (refine GQ.a ?_; refine Q.al (fun b1 => ?_)))
  refine opsS_cutT (σ := Bool) (fun t => [(0, .pointer (some ⟨p, 0, none⟩)), (5, .int .i64 n), (28, .bool t)]) (fun _ => pt p (cl [.slice a ovs.length c] 122) :: slO 97 2 a ovs.length c (ovs.flatMap OV.cells) :: L) (fun t => (m = if t = true then n - 1 else n) ∧ (t = true → 0 < n)) ?_ ?_
  · by_cases h0 : n = 0
    · rw [if_pos h0] at hm
      refine Q.r ?_; (repeat (intro b1; refine Q.r ?_))
      exact ⟨false, ⟨rfl, rfl, by rw [decide_eq_false (show ¬ (0 : Int) < (n : Int) by omega)]; rfl, trivial⟩, Ent.refl _, by rw [hm, h0]; rfl, fun h => by cases h⟩
    · rw [if_neg h0] at hm
      obtain ⟨o, ho⟩ := mem_get (l := ovs) (k := n - 1) (by omega)
      have hat : (((ovs.map OV.abs)[n - 1]?).map (·.2)).getD [] = o.vec := by rw [List.getElem?_map, ho]; rfl
      rw [hat] at hm
      rcases ha with ha | ⟨b, rfl⟩
      · omega
      have hr := chain_rd (p := p) (b := b) (c := c) (L := L) ho
      repeat (first | refine S.y (Y.ldRj rfl (by first | assumption | exact RdC.sub (by assumption)) rfl) ?_ | refine Q.yn ?_ | refine S.stI rfl rfl (by first | omega | (rw [Array.size_setIfInBounds]; omega)) ?_ | (refine GQ.y ?_; refine Q.y ?_) | refine Q.go ?_ | (refine GQ.g ?_; refine Q.gq ?_) | (refine GQ.s ?_; refine Q.st ?_) | (refine GQ.g ?_; refine Q.gd ?_) | refine Q.ct rfl ?_ | refine Q.cf rfl ?_ | (refine GQ.a ?_; refine Q.al (fun b1 => ?_)))
      by_cases hz : 0 < o.vec.length
      · rw [if_pos hz] at hm
        exact ⟨true, ⟨rfl, rfl, by rw [decide_eq_true (show (0 : Int) < (o.vec.length : Int) by omega)]; rfl, trivial⟩, Ent.refl _, by rw [if_pos rfl]; exact hm, fun _ => by omega⟩
      · rw [if_neg hz] at hm
        exact ⟨false, ⟨rfl, rfl, by rw [decide_eq_false (show ¬ (0 : Int) < (o.vec.length : Int) by omega)]; rfl, trivial⟩, Ent.refl _, by rw [if_neg Bool.false_ne_true]; exact hm, fun h => by cases h⟩
  clear hm
  rintro t ⟨hm, ht⟩
  refine swp_cutT (σ := Unit) (fun _ => [(0, .pointer (some ⟨p, 0, none⟩)), (5, .int .i64 m)]) (fun _ => pt p (cl [.slice a ovs.length c] 122) :: slO 97 2 a ovs.length c (ovs.flatMap OV.cells) :: L) (fun _ => True) ?_ ?_
  · cases t with
    | true =>
      rw [if_pos rfl] at hm
      have h0 := ht rfl
      · refine Q.rn ?_; (repeat (intro b1; refine Q.rn ?_))
        exact ⟨(), ⟨rfl, by rw [hm]; rfl, trivial⟩, Ent.refl _, trivial⟩
    | false =>
      rw [if_neg Bool.false_ne_true] at hm
      refine Q.r ?_; (repeat (intro b1; refine Q.r ?_))
      exact ⟨(), ⟨rfl, by rw [hm]; rfl, trivial⟩, Ent.refl _, trivial⟩
  intro _ _
  refine Q.r ?_; (repeat (intro b1; refine Q.r ?_))
  refine opsS_cap a fun hcap => ?_
  have hmc : m ≤ c := Nat.le_trans hmle hcap
  clear hm ht hs
  refine S.y (Y.slT (h := m) rfl rfl rfl hmc) ?_
  refine Q.r ?_; (repeat (intro b1; refine Q.r ?_))
  refine swp_cutB (σ := Option Addr × Nat) (fun u => [(0, .pointer (some ⟨p, 0, none⟩)), (5, .int .i64 m), (6, .slice u.1 m u.2)]) (fun u => slO 30 1 u.1 m u.2 (((ovs.take m).map (·.id)).map U64) :: pt p (cl [.slice a ovs.length c] 122) :: slO 97 2 a ovs.length c (ovs.flatMap OV.cells) :: L) (fun _ => True) ?_ ?_
  · refine swp_loop (σ := Nat × Option Addr × Nat) (fun u => [(0, .pointer (some ⟨p, 0, none⟩)), (5, .int .i64 m), (36, .slice a m c), (37, .int .i64 m), (6, .slice u.2.1 u.1 u.2.2), (38, .int .i64 u.1)]) (fun u => slO 30 1 u.2.1 u.1 u.2.2 (((ovs.take u.1).map (·.id)).map U64) :: pt p (cl [.slice a ovs.length c] 122) :: slO 97 2 a ovs.length c (ovs.flatMap OV.cells) :: L)
      (fun u => u.1 ≤ m) (fun u => m - u.1) (0, none, 0) ⟨rfl, rfl, rfl, rfl, rfl, rfl, trivial⟩ slO_nil (by dsimp only; omega) ?_
    rintro ⟨k, a3, c3⟩ hk
    dsimp only at hk ⊢
    by_cases hlt : k < m
    · obtain ⟨o, ho⟩ := mem_get (l := ovs) (k := k) (by omega)
      rcases ha with ha | ⟨b, rfl⟩
      · omega
      have hr : RdC (slO 30 1 a3 k c3 (((ovs.take k).map (·.id)).map U64) :: pt p (cl [.slice (some ⟨b, 0, none⟩) ovs.length c] 122) :: slO 97 2 (some ⟨b, 0, none⟩) ovs.length c (ovs.flatMap OV.cells) :: L) b (0 + k * 2) (OV.cells o) := RdC.elem (g := OV.cells) (fun _ => rfl) RdC.ofS ho
      refine Q.r ?_; (repeat (intro b1; refine Q.r ?_))
      refine S.app rfl rfl (SrcS.sl RdC.row (by rfl) (by rfl)) (by rfl) (by omega) (by omega) (fun a4 c4 => ?_)
      refine Q.r ?_; (repeat (intro b1; refine Q.r ?_))
      refine ⟨(k + 1, a4, c4), ⟨rfl, rfl, rfl, rfl, rfl, rfl, trivial⟩, ?_, by dsimp only; omega, by dsimp only; omega⟩
      dsimp only
      rw [take_snoc ho, List.map_append, List.map_append]
      repeat (first | exact Ent.refl _ | exact Ent.nil | refine Ent.pick ?_ | refine Ent.nilS ?_ | refine Ent.nilM ?_ | refine Ent.drop ?_)
    · have hke : k = m := by omega
      subst hke
      refine Q.r ?_; (repeat (intro b1; refine Q.r ?_))
      exact ⟨(a3, c3), ⟨rfl, rfl, rfl, trivial⟩, Ent.refl _, trivial⟩
  rintro ⟨a3, c3⟩ -
  dsimp only
  refine Q.r ?_; (repeat (intro b1; refine Q.r ?_))
  refine S.y (Y.slFa (l := m) rfl rfl rfl hmle (by rcases ha with ha | ⟨b, rfl⟩; exact .inl ha; exact .inr ⟨b, 0, rfl⟩)) ?_
  have hrv : ∀ L', L' = slO 30 1 a3 m c3 (((ovs.take m).map (·.id)).map U64) :: pt p (cl [.slice a ovs.length c] 122) :: slO 97 2 a ovs.length c (ovs.flatMap OV.cells) :: L → RdS L' (subA a c m 2) (ovs.drop m).length 2 ((ovs.drop m).flatMap OV.cells) := by
    rintro L' rfl
    have h0 : RdS (slO 30 1 a3 m c3 (((ovs.take m).map (·.id)).map U64) :: pt p (cl [.slice a ovs.length c] 122) :: slO 97 2 a ovs.length c (ovs.flatMap OV.cells) :: L) a ovs.length 2 (ovs.flatMap OV.cells) := RdS.ofS (flat_len2 _) ha
    have h1 := RdS.fromA (l := m) h0 hmle hcap
    rw [flat_drop (sz := 2) (fun _ => rfl)] at h1
    rw [List.length_drop]; exact h1
  have hCl := CloneV_spec (subA a c m 2) (c - m) (ovs.drop m) _ (hrv _ rfl) (by rw [List.length_drop]; omega)
  rw [List.length_drop] at hCl
  refine S.cr rfl hCl ?_
  rintro _ _ ⟨a5, c5, rfl, rfl⟩
  refine Q.r ?_; (repeat (intro b1; refine Q.r ?_))
  have e : (((ovs.map OV.abs).take m).map (·.1)).map U64 = ((ovs.take m).map (·.id)).map U64 := congrArg (List.map U64) (by rw [← List.map_take, List.map_map]; rfl)
  rw [e]
  refine N.r1 (RV.tmp rfl RV.nil) ?_ ⟨a3, c3, rfl, rfl⟩
  have := chain_shut (p := p) (a := a5) (c := c5) (L := L) (M := M) (ovs := ovs.drop m) (fun o ho => h2 o (List.mem_of_mem_drop ho))
  rw [List.length_drop, List.map_drop] at this
  refine Ent.pick (Ent.trans ?_ this)
  repeat (first | exact Ent.refl _ | exact Ent.nil | refine Ent.pick ?_ | refine Ent.nilS ?_ | refine Ent.nilM ?_ | refine Ent.drop ?_)
end Go.Proofs.YtjidejcehmamkaaDoor
/- The vault: Sweep. No condition. -/
namespace Go.Proofs.YtjidejcehmamkaaDoor
open Go Go.SX
attribute [local irreducible] swp opsS thenS blockS retS CallsS St Ent YieldS anyS drawS
abbrev GL := List (Int × Int)
def sw1 (s : Int) (u : List (Int × VL) × GL) (id : Int) : List (Int × VL) × GL :=
  (if ((chV u.1 id).drop (cutN (chV u.1 id) s)).length = 0 then delL u.1 id else putL u.1 id ((chV u.1 id).drop (cutN (chV u.1 id) s)), u.2 ++ ((chV u.1 id).take (cutN (chV u.1 id) s)).map fun v => (id, v.1))
def swF (s : Int) (ks : List Int) (ch : List (Int × VL)) : List (Int × VL) × GL := ks.foldl (sw1 s) (ch, [])
def swIds (ch : List (Int × VL)) : List Int := sortL (ch.map (·.1))
def sweepS (st : VS) (s : Int) : VS := if min s 1099511627776 ≤ st.mark then st else { st with mark := min s 1099511627776, ch := (swF (min s 1099511627776) (swIds st.ch) st.ch).1 }
def sweepG (st : VS) (s : Int) : GL := if min s 1099511627776 ≤ st.mark then [] else (swF (min s 1099511627776) (swIds st.ch) st.ch).2
theorem lkL_del {κ α : Type} [DecidableEq κ] {m : List (κ × α)} (x y : κ) (h : y ≠ x) : lkL (delL m x) y = lkL m y := by
  unfold lkL delL
  rw [List.find?_filter]
  congr 2
  funext u
  by_cases hu : u.1 = y
  · have : u.1 ≠ x := fun e => h (by rw [← hu, e])
    simp [hu, h]
  · simp [hu]
theorem sw1_ok {s : Int} {u : List (Int × VL) × GL} (h : keysOK u.1) (id : Int) : keysOK (sw1 s u id).1 := by
  unfold sw1
  dsimp only
  split
  · exact delL_ok h id
  · exact putL_ok h _ _
theorem sw1_lk {s : Int} {u : List (Int × VL) × GL} (h : keysOK u.1) {id x : Int} (hx : x ≠ id) : lkL (sw1 s u id).1 x = lkL u.1 x := by
  unfold sw1
  dsimp only
  split
  · exact lkL_del _ _ hx
  · rw [lkL_put h, if_neg hx]
theorem swF_ok {s : Int} : ∀ {ks : List Int} {u : List (Int × VL) × GL}, keysOK u.1 → keysOK (ks.foldl (sw1 s) u).1
  | [], _, h => h
  | k :: ks, u, h => swF_ok (ks := ks) (u := sw1 s u k) (sw1_ok h k)
theorem swF_lk {s : Int} {x : Int} : ∀ {ks : List Int} {u : List (Int × VL) × GL}, keysOK u.1 → x ∉ ks → lkL (ks.foldl (sw1 s) u).1 x = lkL u.1 x
  | [], _, _, _ => rfl
  | k :: ks, u, h, hx => by
    simp only [List.mem_cons, not_or] at hx
    show lkL (ks.foldl (sw1 s) (sw1 s u k)).1 x = _
    rw [swF_lk (ks := ks) (sw1_ok h k) hx.2, sw1_lk h hx.1]
theorem swIds_nodup {ch : List (Int × VL)} (h : keysOK ch) : (swIds ch).Nodup := (sortL_perm _).nodup_iff.2 h
theorem swIds_mem {ch : List (Int × VL)} {x : Int} (h : x ∈ swIds ch) : ∃ vs, (x, vs) ∈ ch := by
  obtain ⟨u, hu, e⟩ := List.mem_map.1 ((sortL_perm _).mem_iff.1 h)
  exact ⟨u.2, by rw [← e]; exact hu⟩
theorem swF_at {s : Int} {ch : List (Int × VL)} (h : keysOK ch) {k : Nat} {x : Int} (hx : (swIds ch)[k]? = some x) : ∃ vs, lkL ch x = some vs ∧ lkL (((swIds ch).take k).foldl (sw1 s) (ch, [])).1 x = some vs := by
  obtain ⟨vs, hm⟩ := swIds_mem (List.mem_of_getElem? hx)
  have h1 := (lkL_iff h).2 hm
  refine ⟨vs, h1, ?_⟩
  rw [swF_lk (u := (ch, [])) h (fun hk => ?_)]
  · exact h1
  · obtain ⟨j, hj, e⟩ := List.mem_iff_getElem.1 hk
    rw [List.length_take] at hj
    rw [List.getElem_take] at e
    have h2 : (swIds ch)[j]? = some x := by rw [← e]; exact List.getElem?_eq_getElem _
    have := (List.getElem?_inj (by omega) (swIds_nodup h)).1 (h2.trans hx.symm)
    omega
theorem foldl_take {α β : Type} (f : β → α → β) (b : β) {l : List α} {k : Nat} {x : α} (h : l[k]? = some x) : (l.take (k + 1)).foldl f b = f ((l.take k).foldl f b) x := by
  rw [take_snoc h, List.foldl_append]; rfl
abbrev gcells (x : Int × Int) : List Value := [.int .u64 x.1, .int .u64 x.2]
theorem AtC.del {ch : List (Int × VL)} {id : Int} {p q : List CR} {b : Nat} {vs : VL} (h : AtC ch id p q b vs) (e : ch = (p ++ (id, b, vs) :: q).map fun c => (c.1, c.2.2)) : (p ++ q).map (fun c => (c.1, c.2.2)) = delL ch id := by
  rw [e]
  unfold delL
  rw [List.map_append, List.map_append, List.map_cons, List.filter_append, List.filter_cons]
  simp only [decide_true, Bool.not_true, Bool.false_eq_true, if_false]
  rw [List.filter_eq_self.2, List.filter_eq_self.2]
  · intro u hu
    obtain ⟨w, hw, rfl⟩ := List.mem_map.1 hu
    have := h.hq w hw
    simpa using this
  · intro u hu
    obtain ⟨w, hw, rfl⟩ := List.mem_map.1 hu
    have := h.hp w hw
    simpa using this
theorem delP {p q : List CR} {id : Int} {b : Nat} {vs : VL} (hp : ∀ u ∈ p, u.1 ≠ id) (hq : ∀ u ∈ q, u.1 ≠ id) : delL ((p ++ (id, b, vs) :: q).map fun c => (c.1, c.2.1)) id = (p ++ q).map fun c => (c.1, c.2.1) := by
  unfold delL
  rw [List.map_append, List.map_append, List.map_cons, List.filter_append, List.filter_cons]
  simp only [decide_true, Bool.not_true, Bool.false_eq_true, if_false]
  rw [List.filter_eq_self.2, List.filter_eq_self.2]
  · intro u hu
    obtain ⟨w, hw, rfl⟩ := List.mem_map.1 hu
    have := hq w hw
    simpa using this
  · intro u hu
    obtain ⟨w, hw, rfl⟩ := List.mem_map.1 hu
    have := hp w hw
    simpa using this
set_option maxHeartbeats 4000000 in
theorem Sweep_spec (v : Nat) (st : VS) (n : Nat) (s : Int) (L : List HP) (hw : WF st n) (hn : n ≤ 10000) :
    CallsS Tryd.prog 22 [ptrV v, .int .u64 s] (vaultH v st :: L) (fun r L' => ∃ a c, r = .slice a (sweepG st s).length c ∧ (sweepG st s).length ≤ 1600000000 ∧ L' = slO 102 2 a (sweepG st s).length c ((sweepG st s).flatMap gcells) :: vaultH v (sweepS st s) :: L) := by
  unfold sweepG sweepS
  refine calls_vault fun mc mi M cs is hok => ?_
  obtain ⟨m, hm⟩ : ∃ m, m = min s 1099511627776 := ⟨_, rfl⟩
  rw [← hm]
  have hcl : cs.length = st.ch.length := by rw [← hok.ch]; simp
  have hcn : cs.length ≤ 16 * n := by rw [hcl]; exact hw.cl
  refine CallsS.of_body Tryd.func22 rfl rfl rfl ?_
  by_cases h1 : m ≤ st.mark
  · rw [if_pos h1, if_pos h1]
    repeat (first | (refine GQ.y ?_; refine Q.y ?_) | refine Q.go ?_ | (refine GQ.g ?_; refine Q.gq ?_) | (refine GQ.s ?_; refine Q.st ?_) | (refine GQ.a ?_; refine Q.al (fun b1 => ?_)))
    rw [← hm]
    refine Q.r ?_; (repeat (intro b1; refine Q.r ?_))
    refine N.r1 (RV.tmp rfl RV.nil) ?_ ⟨none, 0, rfl, by simp, rfl⟩
    refine Ent.trans ?_ slO_nil
    exact vault_shut hok
  rw [if_neg h1, if_neg h1]
  repeat (first | (refine GQ.y ?_; refine Q.y ?_) | refine Q.go ?_ | (refine GQ.g ?_; refine Q.gq ?_) | (refine GQ.s ?_; refine Q.st ?_) | (refine GQ.a ?_; refine Q.al (fun b1 => ?_)))
  rw [← hm]
  refine Q.r ?_; (repeat (intro b1; refine Q.r ?_))
  refine S.cr rfl (Ids_spec v mc mi st.dim m cs _ (by omega)) ?_
  rintro _ _ ⟨a, c, rfl, rfl⟩
  refine Q.r ?_; (repeat (intro b1; refine Q.r ?_))
  obtain ⟨ks, hks⟩ : ∃ ks, ks = swIds st.ch := ⟨_, rfl⟩
  have hks' : sortL (cs.map (·.1)) = ks := by rw [hks, ← hok.ch]; unfold swIds; rw [List.map_map]; rfl
  have hkl : cs.length = ks.length := by rw [← hks', sortL_len, List.length_map]
  rw [hks', hkl]
  rw [hkl] at hcn
  refine swp_addr a (fun ha => ?_)
  have hkeys : keysOK (cs.map fun c => (c.1, c.2.2)) := by rw [hok.ch]; exact hok.k1
  refine swp_cutB (σ := Option Addr × Nat × List CR) (fun u => [(5, .slice u.1 (swF m ks st.ch).2.length u.2.1)]) (fun u => slO 102 2 u.1 (swF m ks st.ch).2.length u.2.1 ((swF m ks st.ch).2.flatMap gcells) :: vP v mc mi st.dim m :: vC mc u.2.2 :: vI mi is :: chsH M u.2.2 :: roM M :: L) (fun u => u.2.2.map (fun c => (c.1, c.2.2)) = (swF m ks st.ch).1 ∧ (swF m ks st.ch).2.length ≤ 1600000000) ?_ ?_
  · refine swp_loop (σ := Nat × Option Addr × Nat × GL × List CR) (fun u => [(0, ptrV v), (1, .int .u64 m), (27, .slice a ks.length c), (28, .int .i64 ks.length), (5, .slice u.2.1 u.2.2.2.1.length u.2.2.1), (29, .int .i64 u.1)])
      (fun u => slO 30 1 a ks.length c (ks.map U64) :: slO 102 2 u.2.1 u.2.2.2.1.length u.2.2.1 (u.2.2.2.1.flatMap gcells) :: vP v mc mi st.dim m :: vC mc u.2.2.2.2 :: vI mi is :: chsH M u.2.2.2.2 :: roM M :: L)
      (fun u => u.1 ≤ ks.length ∧ u.2.2.2.1.length ≤ u.1 * 10000 ∧ (u.2.2.2.2.map (fun c => (c.1, c.2.2)), u.2.2.2.1) = (ks.take u.1).foldl (sw1 m) (st.ch, [])) (fun u => ks.length - u.1) (0, none, 0, [], cs) ⟨rfl, rfl, rfl, rfl, rfl, rfl, trivial⟩ ?_ ⟨by omega, by simp, by dsimp only; rw [hok.ch]; rfl⟩ ?_
    · refine Ent.cons (Ent.trans ?_ slO_nil)
      repeat (first | exact Ent.refl _ | exact Ent.nil | refine Ent.pick ?_ | refine Ent.nilS ?_ | refine Ent.nilM ?_ | refine Ent.drop ?_)
    rintro ⟨k, a3, c3, g, cs1⟩ ⟨hk, hgl, hfold⟩
    dsimp only at hk hgl hfold ⊢
    by_cases hlt : k < ks.length
    · obtain ⟨id, hx⟩ := mem_get hlt
      have hx' := hx
      rw [hks] at hx'
      obtain ⟨vs0, hl1, hl2⟩ := swF_at (s := m) hok.k1 hx'
      rw [← hks, ← hfold] at hl2
      dsimp only at hl2
      have hk1 : keysOK (cs1.map fun c => (c.1, c.2.2)) := by
        have := swF_ok (s := m) (ks := ks.take k) (u := (st.ch, [])) hok.k1
        rw [← hfold] at this
        exact this
      rcases ha with ha | ⟨b, rfl⟩
      · omega
      rcases cr_case cs1 hk1 id with ⟨p, q, b2, vs, rfl, e1, e2, e3, e4⟩ | ⟨e1, e2, e3⟩
      · rw [e2] at hl2
        obtain rfl := Option.some.inj hl2
        have hco := hw.co _ (lk_memL hl1)
        have hcv : chV ((p ++ (id, b2, vs) :: q).map fun c => (c.1, c.2.2)) id = vs := by unfold chV; rw [e2]; rfl
        have hstep := foldl_take (sw1 m) (st.ch, []) hx
        rw [← hfold] at hstep
        have hrs : RdS (slO 30 1 (some ⟨b, 0, none⟩) ks.length c (ks.map U64) :: slO 102 2 a3 g.length c3 (g.flatMap gcells) :: vP v mc mi st.dim m :: vC mc (p ++ (id, b2, vs) :: q) :: vI mi is :: chsH M (p ++ (id, b2, vs) :: q) :: roM M :: L) (some ⟨b, 0, none⟩) ks.length 1 (ks.flatMap cU) := by
          rw [flat_U]; exact RdS.ofS (by simp) (.inr ⟨b, rfl⟩)
        obtain ⟨b', o', hbo, hr⟩ := RdS.elem (g := cU) (fun _ => rfl) hrs hx rfl
        cases hbo
        clear hrs
        refine Q.r ?_; (repeat (intro b1; refine Q.r ?_))
        refine S.y (Y.lk false rfl rfl (fun w => Tryd.zeroValue92 w)) ?_
        rw [e1]
        dsimp only
        refine Q.r ?_; (repeat (intro b1; refine Q.r ?_))
        refine opsS_ent (L' := chainH M b2 vs :: slO 30 1 (some ⟨b, 0, none⟩) ks.length c (ks.map U64) :: slO 102 2 a3 g.length c3 (g.flatMap gcells) :: vP v mc mi st.dim m :: vC mc (p ++ (id, b2, vs) :: q) :: vI mi is :: chsH M (p ++ q) :: roM M :: L) ?_ ?_
        · refine Ent.trans (?_ : Ent _ (chsH M (p ++ (id, b2, vs) :: q) :: slO 30 1 (some ⟨b, 0, none⟩) ks.length c (ks.map U64) :: slO 102 2 a3 g.length c3 (g.flatMap gcells) :: vP v mc mi st.dim m :: vC mc (p ++ (id, b2, vs) :: q) :: vI mi is :: roM M :: L)) ?_
          · repeat (first | exact Ent.refl _ | exact Ent.nil | refine Ent.pick ?_ | refine Ent.nilS ?_ | refine Ent.nilM ?_ | refine Ent.drop ?_)
          refine (chs_out (p := p) (q := q) (x := (id, b2, vs)) (M := M)).trans (Ent.cons ?_)
          repeat (first | exact Ent.refl _ | exact Ent.nil | refine Ent.pick ?_ | refine Ent.nilS ?_ | refine Ent.nilM ?_ | refine Ent.drop ?_)
        refine S.cr rfl (ChSweep_spec M b2 vs m _ hco.1 (by have := hco.2.1; dsimp only at this; omega)) ?_
        rintro _ _ ⟨a4, c4, rfl, rfl⟩
        obtain ⟨nn, hN⟩ : ∃ nn, nn = cutN vs m := ⟨_, rfl⟩
        have hNl : nn ≤ vs.length := by rw [hN]; exact cut_le _ _
        have hvl : vs.length ≤ n := hco.2.1
        rw [← hN]
        refine opsS_addr a4 (fun ha4 => ?_)
        refine Q.r ?_; (repeat (intro b1; refine Q.r ?_))
        refine swp_cutB (σ := Option Addr × Nat) (fun u => [(0, ptrV v), (1, .int .u64 m), (7, .int .u64 id), (27, .slice (some ⟨b, 0, none⟩) ks.length c), (28, .int .i64 ks.length), (29, .int .i64 k), (5, .slice u.1 (g ++ (vs.take nn).map fun v => (id, v.1)).length u.2)])
          (fun u => slO 102 2 u.1 (g ++ (vs.take nn).map fun v => (id, v.1)).length u.2 ((g ++ (vs.take nn).map fun v => (id, v.1)).flatMap gcells) :: chainH M b2 (vs.drop nn) :: slO 30 1 (some ⟨b, 0, none⟩) ks.length c (ks.map U64) :: vP v mc mi st.dim m :: vC mc (p ++ (id, b2, vs) :: q) :: vI mi is :: chsH M (p ++ q) :: roM M :: L) (fun _ => True) ?_ ?_
        · refine swp_loop (σ := Nat × Option Addr × Nat × GL) (fun u => [(0, ptrV v), (1, .int .u64 m), (7, .int .u64 id), (27, .slice (some ⟨b, 0, none⟩) ks.length c), (28, .int .i64 ks.length), (29, .int .i64 k), (40, .slice a4 nn c4), (41, .int .i64 nn), (5, .slice u.2.1 u.2.2.2.length u.2.2.1), (42, .int .i64 u.1)])
            (fun u => slO 30 1 a4 nn c4 (((vs.take nn).map (·.1)).map U64) :: slO 102 2 u.2.1 u.2.2.2.length u.2.2.1 (u.2.2.2.flatMap gcells) :: chainH M b2 (vs.drop nn) :: slO 30 1 (some ⟨b, 0, none⟩) ks.length c (ks.map U64) :: vP v mc mi st.dim m :: vC mc (p ++ (id, b2, vs) :: q) :: vI mi is :: chsH M (p ++ q) :: roM M :: L)
            (fun u => u.1 ≤ nn ∧ u.2.2.2 = g ++ (vs.take u.1).map fun v => (id, v.1)) (fun u => nn - u.1) (0, a3, c3, g) ⟨rfl, rfl, rfl, rfl, rfl, rfl, rfl, rfl, rfl, rfl, trivial⟩ ?_ ⟨by dsimp only; omega, by simp⟩ ?_
          · dsimp only
            repeat (first | exact Ent.refl _ | exact Ent.nil | refine Ent.pick ?_ | refine Ent.nilS ?_ | refine Ent.nilM ?_ | refine Ent.drop ?_)
          rintro ⟨j, a5, c5, g5⟩ ⟨hj, hg5⟩
          dsimp only at hj hg5 ⊢
          have hg5l : g5.length = g.length + min j vs.length := by rw [hg5]; simp
          by_cases hjl : j < nn
          · obtain ⟨w, hwj⟩ := mem_get (l := vs) (k := j) (by omega)
            rcases ha4 with ha4 | ⟨b4, rfl⟩
            · omega
            have hwm : ((vs.take nn).map (·.1))[j]? = some w.1 := by rw [List.getElem?_map, List.getElem?_take, if_pos hjl, hwj]; rfl
            have hNN : nn = ((vs.take nn).map (·.1)).length := by simp; omega
            have hrs : RdS (slO 30 1 (some ⟨b4, 0, none⟩) nn c4 (((vs.take nn).map (·.1)).map U64) :: slO 102 2 a5 g5.length c5 (g5.flatMap gcells) :: chainH M b2 (vs.drop nn) :: slO 30 1 (some ⟨b, 0, none⟩) ks.length c (ks.map U64) :: vP v mc mi st.dim m :: vC mc (p ++ (id, b2, vs) :: q) :: vI mi is :: chsH M (p ++ q) :: roM M :: L) (some ⟨b4, 0, none⟩) nn 1 (((vs.take nn).map (·.1)).flatMap cU) := by
              rw [flat_U]; exact RdS.ofS (by simp; omega) (.inr ⟨b4, rfl⟩)
            obtain ⟨b', o', hbo, hr⟩ := RdS.elem (g := cU) (fun _ => rfl) hrs hwm hNN
            cases hbo
            clear hrs
            refine Q.r ?_; (repeat (intro b1; refine Q.r ?_))
            refine S.app rfl rfl (SrcS.sl RdC.row (by rfl) (by rfl)) (by rfl) (by omega) (by omega) (fun a6 c6 => ?_)
            refine Q.r ?_; (repeat (intro b1; refine Q.r ?_))
            refine ⟨(j + 1, a6, c6, g5 ++ [(id, w.1)]), ⟨rfl, rfl, rfl, rfl, rfl, rfl, rfl, rfl, congrArg some (by simp), rfl, trivial⟩, ?_, ⟨by dsimp only; omega, ?_⟩, by dsimp only; omega⟩
            · dsimp only
              rw [len_snoc, flat_snoc]
              repeat (first | exact Ent.refl _ | exact Ent.nil | refine Ent.pick ?_ | refine Ent.nilS ?_ | refine Ent.nilM ?_ | refine Ent.drop ?_)
            · dsimp only
              rw [hg5, take_snoc hwj, List.map_append, List.append_assoc]; rfl
          · have hje : j = nn := by omega
            subst hje
            refine Q.r ?_; (repeat (intro b1; refine Q.r ?_))
            subst hg5
            exact ⟨(a5, c5), ⟨rfl, rfl, rfl, rfl, rfl, rfl, rfl, trivial⟩, by repeat (first | exact Ent.refl _ | exact Ent.nil | refine Ent.pick ?_ | refine Ent.nilS ?_ | refine Ent.nilM ?_ | refine Ent.drop ?_), trivial⟩
        rintro ⟨a5, c5⟩ -
        dsimp only
        have hat : AtC ((p ++ (id, b2, vs) :: q).map fun c => (c.1, c.2.2)) id p q b2 vs := AtC.some e3 e4
        have hgg : ((g ++ (vs.take nn).map fun v => (id, v.1)) : GL).length ≤ (k + 1) * 10000 := by
          rw [List.length_append, List.length_map, List.length_take]; omega
        have hdl : (vs.drop nn).length = vs.length - nn := List.length_drop ..
        refine Q.r ?_; (repeat (intro b1; refine Q.r ?_))
        refine S.y (Y.lk false rfl rfl (fun w => Tryd.zeroValue92 w)) ?_
        rw [e1]
        dsimp only
        refine S.cch b2 rfl (ChLen_spec M b2 _ _) ?_
        rintro _ _ ⟨rfl, rfl⟩
        by_cases h0 : (vs.drop nn).length = 0
        · refine Q.r ?_; (repeat (intro b1; refine Q.r ?_))
          refine S.dl rfl rfl ?_
          rw [delP e3 e4]
          refine Q.r ?_; (repeat (intro b1; refine Q.r ?_))
          refine ⟨(k + 1, a5, c5, g ++ (vs.take nn).map (fun v => (id, v.1)), p ++ q), ⟨rfl, rfl, rfl, rfl, rfl, rfl, trivial⟩, ?_, ⟨by dsimp only; omega, by dsimp only; exact hgg, ?_⟩, by dsimp only; omega⟩
          · dsimp only
            repeat (first | exact Ent.refl _ | exact Ent.nil | refine Ent.pick ?_ | refine Ent.nilS ?_ | refine Ent.nilM ?_ | refine Ent.drop ?_)
          · dsimp only
            rw [hstep, hat.del rfl]
            unfold sw1
            dsimp only
            rw [hcv, ← hN, if_pos h0]
        · refine Q.r ?_; (repeat (intro b1; refine Q.r ?_))
          refine ⟨(k + 1, a5, c5, g ++ (vs.take nn).map (fun v => (id, v.1)), p ++ (id, b2, vs.drop nn) :: q), ⟨rfl, rfl, rfl, rfl, rfl, rfl, trivial⟩, ?_, ⟨by dsimp only; omega, by dsimp only; exact hgg, ?_⟩, by dsimp only; omega⟩
          · dsimp only
            rw [show vC mc (p ++ (id, b2, vs) :: q) = vC mc (p ++ (id, b2, vs.drop nn) :: q) by unfold vC; simp]
            refine Ent.pick (Ent.pick (Ent.pick (Ent.pick (Ent.pick ?_))))
            refine Ent.trans ?_ (chs_in (p := p) (q := q) (x := (id, b2, vs.drop nn)))
            repeat (first | exact Ent.refl _ | exact Ent.nil | refine Ent.pick ?_ | refine Ent.nilS ?_ | refine Ent.nilM ?_ | refine Ent.drop ?_)
          · dsimp only
            rw [hstep, hat.put]
            unfold sw1
            dsimp only
            rw [hcv, ← hN, if_neg h0]
      · rw [e2] at hl2
        cases hl2
    · have hke : k = ks.length := by omega
      subst hke
      rw [List.take_length] at hfold
      have h1' : (swF m ks st.ch).1 = cs1.map (fun c => (c.1, c.2.2)) := (congrArg Prod.fst hfold).symm
      have h2' : (swF m ks st.ch).2 = g := (congrArg Prod.snd hfold).symm
      rw [h1', h2']
      refine Q.r ?_; (repeat (intro b1; refine Q.r ?_))
      exact ⟨(a3, c3, cs1), ⟨rfl, trivial⟩, by repeat (first | exact Ent.refl _ | exact Ent.nil | refine Ent.pick ?_ | refine Ent.nilS ?_ | refine Ent.nilM ?_ | refine Ent.drop ?_), rfl, by omega⟩
  rintro ⟨a3, c3, cs1⟩ ⟨hcs, hgb⟩
  dsimp only at hcs hgb ⊢
  refine Q.r ?_; (repeat (intro b1; refine Q.r ?_))
  rw [← hks]
  refine N.r1 (RV.tmp rfl RV.nil) (Ent.cons ?_) ⟨a3, c3, rfl, hgb, rfl⟩
  have hok2 : VOK M { st with mark := m, ch := (swF m ks st.ch).1 } cs1 is := ⟨hcs, hok.its, hok.ok, swF_ok (u := (st.ch, [])) hok.k1, hok.k2⟩
  exact vault_shut hok2
end Go.Proofs.YtjidejcehmamkaaDoor
