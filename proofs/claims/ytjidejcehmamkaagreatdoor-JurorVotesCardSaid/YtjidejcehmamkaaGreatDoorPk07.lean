/- The ref's vault: Lock. The ref's vault: Put, set. The ref's vault: Apply. The ref's vault: Apply, walked. Chains: Clone of versions, Sweep. The vault: Sweep. The ref's vault: the chain's Sweep, set of nothing. The ref's vault: Sweep. The vault's law: do. The vault: what every step keeps. No condition. -/
import Derived.Test.YtjidejcehmamkaaGreatDoorPk06
set_option linter.unusedVariables false
set_option linter.unusedSimpArgs false
set_option linter.unusedSectionVars false
namespace Go.Proofs.YtjidejcehmamkaaGreatDoor
open Go Go.SX
attribute [local irreducible] swp opsS thenS blockS retS CallsS St Ent YieldS anyS drawS
theorem ins_split {α : Type} (key : α → Int) (t : Int) : ∀ {l : List α}, (l.map key).Pairwise (· < ·) → l.take (l.filter fun j => decide (key j < t)).length = l.filter (fun j => decide (key j < t)) ∧ l.drop (l.filter fun j => decide (key j < t)).length = l.filter (fun j => !decide (key j < t))
  | [], _ => by simp
  | x :: l, hs => by
    rw [List.map_cons, List.pairwise_cons] at hs
    by_cases h : key x < t
    · have ih := ins_split key t hs.2
      simp only [List.filter_cons, h, decide_true, if_true, Bool.not_true, Bool.false_eq_true, if_false, List.length_cons, List.take_succ_cons, List.drop_succ_cons]
      exact ⟨by rw [ih.1], ih.2⟩
    · have hn : l.filter (fun j => decide (key j < t)) = [] := by
        rw [List.filter_eq_nil_iff]
        intro y hy
        have := hs.1 (key y) (List.mem_map_of_mem hy)
        simp; omega
      have ha : l.filter (fun j => !decide (key j < t)) = l := by
        rw [List.filter_eq_self]
        intro y hy
        have := hs.1 (key y) (List.mem_map_of_mem hy)
        simp; omega
      simp [List.filter_cons, h, hn, ha]
theorem keys_snoc {κ α : Type} [DecidableEq κ] {m : List (κ × α)} (h : keysOK m) {x : κ} (a : α) (hx : lkL m x = none) : keysOK (m ++ [(x, a)]) := by
  have hn := lk_none' hx
  unfold keysOK
  rw [List.map_append, List.nodup_append]
  refine ⟨h, by simp, fun y hy z hz => ?_⟩
  simp at hz
  subst hz
  obtain ⟨u, hu, rfl⟩ := List.mem_map.1 hy
  exact hn u hu
theorem ROK.ins {M : Nat → Option Obj} {st : VS} {a a' : Option Addr} {c c' : Nat} {es : List EV} {is : List IV} (h : ROK M st a c es a' c' is) {M2 : Nat → Option Obj} (hl : leM M M2) {a2 : Option Addr} {c2 : Nat} {nw : IV} (hnw : okI M2 nw) (hx : lkL st.its nw.txn = Option.none) (hnc : ∀ o ∈ nw.ops, o.vec.length ≤ o.c)
    {is2 : List IV} (e : is2 = is.filter (fun j => decide (j.txn < nw.txn)) ++ nw :: is.filter (fun j => !decide (j.txn < nw.txn)))
    (hs : SlM M2 a2 is2.length 3 (is2.flatMap IV.cells)) (hc : is2.length ≤ c2) : ROK M2 { st with its := st.its ++ [nw.abs] } a c es a2 c2 is2 := by
  have hn : ∀ i ∈ is, i.txn ≠ nw.txn := fun i hi e => by
    have := lk_none' hx i.abs (h.its.mem_iff.1 (List.mem_map_of_mem hi))
    exact this e
  have hp : is2.Perm (is ++ [nw]) := by
    rw [e]
    refine List.perm_middle.trans ?_
    refine List.Perm.trans ?_ (List.perm_append_singleton nw is).symm
    exact (List.filter_append_perm _ _).cons _
  refine ⟨h.ch, h.cs, ?_, ?_, fun e he => (h.oe e he).mono hl, fun i hi => ?_, h.sE.mono hl, hs, h.cE, hc, h.k1, keys_snoc h.k2 _ hx, fun i hi => ?_⟩
  · refine (hp.map _).trans ?_
    rw [List.map_append]
    exact h.its.append_right _
  · rw [e, List.map_append, List.map_cons, List.pairwise_append]
    refine ⟨pw_filter h.ss _, List.pairwise_cons.2 ⟨fun y hy => ?_, pw_filter h.ss _⟩, fun x hx y hy => ?_⟩
    · obtain ⟨u, hu, rfl⟩ := List.mem_map.1 hy
      have h1 := (List.mem_filter.1 hu).2
      have h2 := hn u (List.mem_filter.1 hu).1
      simp at h1; omega
    · obtain ⟨u, hu, rfl⟩ := List.mem_map.1 hx
      have h1 := (List.mem_filter.1 hu).2
      simp at h1
      rcases List.mem_cons.1 hy with rfl | hy
      · exact h1
      · obtain ⟨w, hw, rfl⟩ := List.mem_map.1 hy
        have h3 := (List.mem_filter.1 hw).2
        simp at h3; omega
  · rcases List.mem_append.1 (hp.mem_iff.1 hi) with hi | hi
    · exact (h.oi i hi).mono hl
    · obtain rfl := List.mem_singleton.1 hi
      exact hnw
  · rcases List.mem_append.1 (hp.mem_iff.1 hi) with hi | hi
    · exact h.oc i hi
    · obtain rfl := List.mem_singleton.1 hi
      exact hnc
theorem vecs_abs2 {L L0 : List HP} {M : Nat → Option Obj} [hp : PickM L M L0] : ∀ us : List OV, Ent (vecsH us :: L) (exH (fun M' => allH [pureH (leM M M' ∧ okR M' us ∧ ∀ o ∈ us, o.vec.length ≤ o.c), roM M']) :: L0) := by
  intro us
  induction us generalizing M L with
  | nil =>
    refine Ent.drop (hp.ent.trans ?_)
    refine Ent.trans ?_ (Ent.shut_ex M)
    refine Ent.trans ?_ Ent.shut_all
    exact Ent.shut_pure ⟨leM.refl M, fun o ho => by (cases ho), fun o ho => by (cases ho)⟩
  | cons o us ih =>
    have h1 : Ent (vecsH (o :: us) :: L) (slO 21 1 o.a o.vec.length o.c (o.vec.map I32) :: vecsH us :: L) := by
      unfold vecsH
      exact bodV_out' (p := []) (by simp)
    refine h1.trans (slO_cap.trans (Ent.pure fun hc => ?_))
    have hp2 : PickM (vecsH us :: L) M (vecsH us :: L0) := inferInstance
    refine (Ent.absorb (h := hp2)).trans ?_
    refine Ent.ex fun M1 => Ent.open_all.trans (Ent.pure fun hs => ?_)
    refine Ent.trans (Ent.perm (.swap _ _ _)) ?_
    refine (ih (M := M1) (L := roM M1 :: L0) (hp := inferInstance)).trans ?_
    refine Ent.ex fun M2 => Ent.open_all.trans (Ent.pure fun hs2 => ?_)
    refine Ent.trans ?_ (Ent.shut_ex M2)
    refine Ent.trans ?_ Ent.shut_all
    refine Ent.shut_pure ⟨hs.1.trans hs2.1, fun u hu => ?_, fun u hu => ?_⟩
    · rcases List.mem_cons.1 hu with rfl | hu
      · exact hs.2.mono hs2.1
      · exact hs2.2.1 u hu
    · rcases List.mem_cons.1 hu with rfl | hu
      · exact hc
      · exact hs2.2.2 u hu
theorem swp_absVc (us : List OV) {n : Nat} {cd : Code} {Q : Post} {f : Env} {L L0 L1 : List HP} {M : Nat → Option Obj} [h : Pick (vecsH us) L L0] [h1 : PickM L0 M L1] (hk : ∀ M', leM M M' → okR M' us → (∀ o ∈ us, o.vec.length ≤ o.c) → swp Tryz.prog n cd Q f (roM M' :: L1)) : swp Tryz.prog n cd Q f L :=
  swp_ent (h.ent.trans (vecs_abs2 us)) (swp_ex fun M' => swp_all (swp_pure fun hh => hk M' hh.1 hh.2.1 hh.2.2))
theorem few_id {k : Nat} {l : VL} (h : l.length ≤ k) (hv : ∀ o ∈ l, o.2.length ≤ 10) : fewV k l = l := by
  rw [fewV_all h]
  conv => rhs; rw [← List.map_id l]
  exact List.map_congr_left fun o ho => by rw [List.take_of_length_le (hv o ho)]; rfl
theorem check_ok {dim : Int} {ops : VL} (h : checkV dim ops = 0) : 1 ≤ dim ∧ dim ≤ 8 ∧ 1 ≤ ops.length ∧ ops.length ≤ 16 ∧ (ops.map (·.1)).Nodup ∧ ∀ o ∈ ops, o.2.length ≤ 8 ∧ (0 < o.2.length → rightV o.2 = true) := by
  unfold checkV at h
  by_cases h1 : dim < 1 ∨ 8 < dim
  · rw [if_pos h1] at h; cases h
  rw [if_neg h1] at h
  by_cases h3 : ops.length = 0
  · rw [if_pos h3] at h; cases h
  rw [if_neg h3] at h
  by_cases h4 : 16 < ops.length
  · rw [if_pos h4] at h; cases h
  rw [if_neg h4] at h
  by_cases h5 : ops.any (badO dim) = true
  · rw [if_pos h5] at h; cases h
  rw [if_neg h5] at h
  by_cases h6 : (ops.map (·.1)).Nodup
  · refine ⟨by omega, by omega, by omega, by omega, h6, fun o ho => ?_⟩
    have hb : badO dim o = false := by
      cases hb : badO dim o with
      | false => rfl
      | true => exact absurd (List.any_eq_true.2 ⟨o, ho, hb⟩) h5
    unfold badO at hb
    simp only [Bool.or_eq_false_iff, Bool.and_eq_false_iff, decide_eq_false_iff_not, Bool.not_eq_false', Decidable.not_not] at hb
    obtain ⟨_, hb⟩ := hb
    rcases hb with hb | hb
    · exact ⟨by omega, fun h => absurd h hb⟩
    · exact ⟨by omega, fun _ => hb.1⟩
  · rw [if_neg h6] at h; cases h
def subA (a : Option Addr) (c l sz : Nat) : Option Addr := if l = 0 then a else a.map fun ad => ⟨ad.block, if c = l then ad.off else ad.off + l * sz, ad.spot⟩
section
variable {P : Program} {n : Nat} {ops : List Oper} {f : Env} {A : List HP} {d : Tmp} {ty : TypeId} {pos : String} {af : Array Edge}
theorem Y.slFa {x lo : Operand} {t e : TypeId} {a : Option Addr} {m c sz bts l : Nat} {ag : Bool} {zs : List Value} {i : Int} {kl : IntKind} [hs : SlTy P t e] [h2 : Ty P e ag sz zs bts] (hx : ev f x = some (.slice a m c))
    (hl : ev f lo = some (.int kl i)) (el : i = (l : Int)) (h1 : l ≤ m) (ha : m = 0 ∨ ∃ b o, a = some ⟨b, o, none⟩) : YieldS P n ops ⟨some d, .slice t x (some lo) none none, ty, pos, af, none⟩ f A (.slice (subA a c l sz) (m - l) (c - l)) := by
  by_cases h0 : l = 0
  · subst h0
    unfold subA
    rw [if_pos rfl, Nat.sub_zero, Nat.sub_zero]
    cases a with
    | none =>
      rcases ha with rfl | ⟨b, o, h⟩
      · exact Y.slFn (hs := hs) (h2 := h2) hx hl el
      · cases h
    | some ad =>
      refine Y.of (fun ac w s => ?_)
      subst el
      have e1 : ∀ ad : Addr, ad.add 0 = ad := fun _ => rfl
      by_cases hc : c = 0 <;> simp [execOp, s.eval hx, s.eval hl, Instr.sliceAt, hs.und, Instr.slice, Instr.sliceBounds, h2.size, Instr.sliceBound, asIntOf, hc, e1]
  · rcases ha with rfl | ⟨b, o, rfl⟩
    · omega
    · unfold subA
      rw [if_neg h0]
      exact Y.slF (hs := hs) (h2 := h2) hx hl el h1
end
theorem RdS.fromA {L : List HP} {a : Option Addr} {m c l sz : Nat} {cs : List Value} (h : RdS L a m sz cs) (h1 : l ≤ m) (h2 : m ≤ c) : RdS L (subA a c l sz) (m - l) sz (cs.drop (l * sz)) := by
  by_cases h0 : l = 0
  · subst h0
    unfold subA
    rw [if_pos rfl, Nat.zero_mul, List.drop_zero]
    exact h
  · obtain ⟨b, o, rfl⟩ : ∃ b o, a = some ⟨b, o, none⟩ := by
      rcases h.2 with h3 | ⟨b, o, h3, _⟩
      · omega
      · exact ⟨b, o, h3⟩
    unfold subA
    rw [if_neg h0]
    exact RdS.from2 h h1 h2
theorem SlM.at {M : Nat → Option Obj} {a : Option Addr} {m sz : Nat} {cs : List Value} (h : SlM M a m sz cs) : m = 0 ∨ ∃ b o, a = some ⟨b, o, none⟩ := by
  have := h.rd (L := [roM M])
  rcases this.2 with h3 | ⟨b, o, h3, _⟩
  · exact .inl h3
  · exact .inr ⟨b, o, h3⟩
set_option maxHeartbeats 4000000 in
theorem RLock_spec (p : Nat) (st : VS) (n : Nat) (i : IV) (L : List HP) (hw : WF st n) (hn : n ≤ 10000) (h : RdO L i.a i.ops) (hic : i.ops.length ≤ i.c) (hc : ∀ o ∈ i.ops, o.vec.length ≤ o.c) (hil : i.ops.length ≤ 1000000) (hv : ∀ o ∈ i.ops, o.vec.length ≤ 1000000) :
    CallsS Tryz.prog 86 [ptrV p, i.val] (refH p st :: L) (fun r L' => r = .int .i64 (lockE st i.txn i.after (i.ops.map OV.abs)) ∧ L' = refH p (lockS st i.txn i.after (i.ops.map OV.abs)) :: L) := by
  have hst : ∀ e, lockE st i.txn i.after (i.ops.map OV.abs) = e → e ≠ 0 → lockS st i.txn i.after (i.ops.map OV.abs) = st := fun e h1 h2 => by unfold lockS; rw [if_neg (by rw [h1]; exact h2)]
  refine calls_ref fun M a c es a' c' is hok => ?_
  have hlen : is.length ≤ n := by rw [hok.len.1]; exact hw.il
  refine CallsS.of_body Tryz.func86 rfl rfl rfl ?_
  by_cases h1 : 1099511627776 < i.after
  · have hE : lockE st i.txn i.after (i.ops.map OV.abs) = 1 := by unfold lockE; rw [if_pos h1]
    rw [hst _ hE (by decide), hE]
    refine Q.r ?_; (repeat (intro b1; refine Q.r ?_))
    refine N.r1 (RV.tmp rfl RV.nil) ?_ ⟨rfl, rfl⟩
    refine Ent.trans ?_ (ref_shut hok)
    repeat (first | exact Ent.refl _ | exact Ent.nil | refine Ent.pick ?_ | refine Ent.nilS ?_ | refine Ent.nilM ?_ | refine Ent.drop ?_)
  refine Q.r ?_; (repeat (intro b1; refine Q.r ?_))
  refine Q.dgo [true, true, false] [6] [] [0, 1, 2, 3, 4, 5, 6, 7] ?_
  refine Q.rd ?_; (repeat (intro b1; refine Q.rd ?_))
  refine D.e rfl rfl rfl ?_
  refine S.cr rfl (RCheck_spec st.dim i.a i.c i.ops _ h.sub hic hil hv (by have := hw.d1; have := hw.d2; omega)) ?_
  rintro _ _ ⟨rfl, rfl⟩
  by_cases h2 : checkV st.dim (i.ops.map OV.abs) ≠ 0
  · have hE : lockE st i.txn i.after (i.ops.map OV.abs) = checkV st.dim (i.ops.map OV.abs) := by unfold lockE; rw [if_neg h1, if_pos h2]
    rw [hst _ hE h2, hE]
    generalize checkV st.dim (i.ops.map OV.abs) = ce at h2 ⊢
    refine Q.r ?_; (repeat (intro b1; refine Q.r ?_))
    refine Q.rd ?_; (repeat (intro b1; refine Q.rd ?_))
    refine Q.r ?_; (repeat (intro b1; refine Q.r ?_))
    refine N.r1 (RV.tmp rfl RV.nil) ?_ ⟨rfl, rfl⟩
    refine Ent.trans ?_ (ref_shut hok)
    repeat (first | exact Ent.refl _ | exact Ent.nil | refine Ent.pick ?_ | refine Ent.nilS ?_ | refine Ent.nilM ?_ | refine Ent.drop ?_)
  have h2' : checkV st.dim (i.ops.map OV.abs) = 0 := Decidable.not_not.1 h2
  obtain ⟨kd1, kd2, k1, k2, k3, k4⟩ := check_ok h2'
  rw [h2']
  refine Q.r ?_; (repeat (intro b1; refine Q.r ?_))
  refine Q.rd ?_; (repeat (intro b1; refine Q.rd ?_))
  refine Q.r ?_; (repeat (intro b1; refine Q.r ?_))
  refine opsS_ent (L' := rP p st.dim a es c a' is c' st.mark :: roM M :: pt b1 (cl [.int .u64 i.txn, .int .u64 i.after, .slice i.a i.ops.length i.c] 177) :: L) (by repeat (first | exact Ent.refl _ | exact Ent.nil | refine Ent.pick ?_ | refine Ent.nilS ?_ | refine Ent.nilM ?_ | refine Ent.drop ?_)) ?_
  refine S.cr rfl (Find_spec p st.dim a es c a' is c' st.mark i.txn M _ hok.sI (by omega)) ?_
  rintro _ _ ⟨⟨k, j, rfl, hj, hjt⟩ | ⟨rfl, hno⟩, rfl⟩
  · have hl := hok.hasT hj
    rw [hjt] at hl
    have hE : lockE st i.txn i.after (i.ops.map OV.abs) = 7 := by unfold lockE; rw [if_neg h1, if_neg h2, hl]; rfl
    rw [hst _ hE (by decide), hE]
    refine Q.r ?_; (repeat (intro b1; refine Q.r ?_))
    refine N.r1 (RV.tmp rfl RV.nil) ?_ ⟨rfl, rfl⟩
    refine Ent.trans ?_ (ref_shut hok)
    repeat (first | exact Ent.refl _ | exact Ent.nil | refine Ent.pick ?_ | refine Ent.nilS ?_ | refine Ent.nilM ?_ | refine Ent.drop ?_)
  have hno' := hok.noT hno
  have hE1 : lockE st i.txn i.after (i.ops.map OV.abs) = if i.ops.any (fun o => st.its.any fun i => holdsV i.2.2 o.id) then 11 else 0 := by
    unfold lockE; rw [if_neg h1, if_neg h2, hno', List.any_map]; rfl
  have hst0 : lockE st i.txn i.after (i.ops.map OV.abs) = 0 → lockS st i.txn i.after (i.ops.map OV.abs) = { st with its := st.its ++ [(i.txn, i.after, i.ops.map OV.abs)] } := fun h => by unfold lockS; rw [if_pos h]
  refine Q.r ?_; (repeat (intro b1; refine Q.r ?_))
  refine swp_cutB (σ := Unit) (fun _ => [(0, ptrV p), (3, .pointer (some ⟨b1, 0, none⟩))]) (fun _ => rP p st.dim a es c a' is c' st.mark :: roM M :: pt b1 (cl [.int .u64 i.txn, .int .u64 i.after, .slice i.a i.ops.length i.c] 177) :: L) (fun _ => ∀ j ∈ is, ∀ o ∈ i.ops, holdsV (j.ops.map OV.abs) o.id = false) ?_ ?_
  · refine swp_loop (σ := Nat) (fun k => [(0, ptrV p), (3, .pointer (some ⟨b1, 0, none⟩)), (36, .slice a' is.length c'), (37, .int .i64 is.length), (38, .int .i64 k)]) (fun _ => rP p st.dim a es c a' is c' st.mark :: roM M :: pt b1 (cl [.int .u64 i.txn, .int .u64 i.after, .slice i.a i.ops.length i.c] 177) :: L)
      (fun k => k ≤ is.length ∧ ∀ j ∈ is.take k, ∀ o ∈ i.ops, holdsV (j.ops.map OV.abs) o.id = false) (fun k => is.length - k) 0 ⟨rfl, rfl, rfl, rfl, rfl, trivial⟩ (by repeat (first | exact Ent.refl _ | exact Ent.nil | refine Ent.pick ?_ | refine Ent.nilS ?_ | refine Ent.nilM ?_ | refine Ent.drop ?_)) ⟨by omega, by simp⟩ ?_
    rintro k ⟨hk, hok2⟩
    by_cases hlt : k < is.length
    · obtain ⟨x, hx⟩ := mem_get hlt
      have hmx : x ∈ is := List.mem_of_getElem? hx
      have hox := hok.oi x hmx
      have hxl : x.ops.length ≤ 16 := by
        have := (hw.io x.abs (hok.its.mem_iff.1 (List.mem_map_of_mem hmx))).1
        simpa using this
      have hrs : RdS (rP p st.dim a es c a' is c' st.mark :: roM M :: pt b1 (cl [.int .u64 i.txn, .int .u64 i.after, .slice i.a i.ops.length i.c] 177) :: L) a' is.length 3 (is.flatMap IV.cells) := hok.sI.rd
      obtain ⟨b, oo, hia, hr⟩ := RdS.elem (g := IV.cells) (fun _ => rfl) hrs hx rfl
      clear hrs
      rw [hia] at hr ⊢
      refine Q.r ?_; (repeat (intro b1; refine Q.r ?_))
      rename_i bx
      refine swp_loop (σ := Nat) (fun j => [(0, ptrV p), (3, .pointer (some ⟨bx, 0, none⟩)), (7, .pointer (some ⟨b1, 0, none⟩)), (36, .slice (some ⟨b, oo, none⟩) is.length c'), (37, .int .i64 is.length), (38, .int .i64 k), (43, .slice i.a i.ops.length i.c), (44, .int .i64 i.ops.length), (45, .int .i64 j)])
        (fun j => pt b1 (cl x.cells 177) :: rP p st.dim a es c (some ⟨b, oo, none⟩) is c' st.mark :: roM M :: pt bx (cl [.int .u64 i.txn, .int .u64 i.after, .slice i.a i.ops.length i.c] 177) :: L)
        (fun j => j ≤ i.ops.length ∧ ∀ o ∈ i.ops.take j, holdsV (x.ops.map OV.abs) o.id = false) (fun j => i.ops.length - j) 0 ⟨rfl, rfl, rfl, rfl, rfl, rfl, rfl, rfl, rfl, trivial⟩ (by repeat (first | exact Ent.refl _ | exact Ent.nil | refine Ent.pick ?_ | refine Ent.nilS ?_ | refine Ent.nilM ?_ | refine Ent.drop ?_)) ⟨by omega, by simp⟩ ?_
      rintro j ⟨hj, hjn⟩
      by_cases hjl : j < i.ops.length
      · obtain ⟨o, ho⟩ := mem_get hjl
        have hmo : o ∈ i.ops := List.mem_of_getElem? ho
        have hrs : RdO (pt b1 (cl x.cells 177) :: rP p st.dim a es c (some ⟨b, oo, none⟩) is c' st.mark :: roM M :: pt bx (cl [.int .u64 i.txn, .int .u64 i.after, .slice i.a i.ops.length i.c] 177) :: L) i.a i.ops := h.sub
        obtain ⟨b4, o4, hia4, hr4⟩ := RdS.elem (g := OV.cells) (fun _ => rfl) hrs.1 ho rfl
        rw [hia4] at hr4 ⊢
        refine Q.r ?_; (repeat (intro b1; refine Q.r ?_))
        refine S.cr rfl (RHolds_spec x o.id _ hox.rd (by omega)) ?_
        rintro _ _ ⟨rfl, rfl⟩
        cases hh : holdsV (x.ops.map OV.abs) o.id with
        | true =>
          have hany : (i.ops.any fun o => st.its.any fun i => holdsV i.2.2 o.id) = true := List.any_eq_true.2 ⟨o, hmo, List.any_eq_true.2 ⟨x.abs, hok.its.mem_iff.1 (List.mem_map_of_mem hmx), hh⟩⟩
          rw [hany, if_pos rfl] at hE1
          rw [hst _ hE1 (by decide), hE1]
          refine Q.r ?_; (repeat (intro b1; refine Q.r ?_))
          refine N.r1 (RV.tmp rfl RV.nil) ?_ ⟨rfl, rfl⟩
          refine Ent.trans ?_ (ref_shut hok)
          rw [hia]
          repeat (first | exact Ent.refl _ | exact Ent.nil | refine Ent.pick ?_ | refine Ent.nilS ?_ | refine Ent.nilM ?_ | refine Ent.drop ?_)
        | false =>
          refine Q.r ?_; (repeat (intro b1; refine Q.r ?_))
          refine ⟨j + 1, ⟨rfl, rfl, rfl, rfl, rfl, rfl, rfl, rfl, rfl, trivial⟩, by repeat (first | exact Ent.refl _ | exact Ent.nil | refine Ent.pick ?_ | refine Ent.nilS ?_ | refine Ent.nilM ?_ | refine Ent.drop ?_), ⟨by omega, ?_⟩, by omega⟩
          rw [take_snoc ho]
          intro u hu
          rcases List.mem_append.1 hu with hu | hu
          · exact hjn u hu
          · obtain rfl := List.mem_singleton.1 hu
            exact hh
      · have hje : j = i.ops.length := by omega
        subst hje
        rw [List.take_length] at hjn
        refine Q.r ?_; (repeat (intro b1; refine Q.r ?_))
        refine ⟨k + 1, ⟨rfl, rfl, rfl, rfl, rfl, trivial⟩, by repeat (first | exact Ent.refl _ | exact Ent.nil | refine Ent.pick ?_ | refine Ent.nilS ?_ | refine Ent.nilM ?_ | refine Ent.drop ?_), ⟨by omega, ?_⟩, by omega⟩
        rw [take_snoc hx]
        intro u hu
        rcases List.mem_append.1 hu with hu | hu
        · exact hok2 u hu
        · obtain rfl := List.mem_singleton.1 hu
          exact hjn
    · have hke : k = is.length := by omega
      subst hke
      rw [List.take_length] at hok2
      refine Q.r ?_; (repeat (intro b1; refine Q.r ?_))
      exact ⟨(), ⟨rfl, rfl, trivial⟩, Ent.refl _, hok2⟩
  intro uu hnh
  have hany : (i.ops.any fun o => st.its.any fun i => holdsV i.2.2 o.id) = false := by
    rw [List.any_eq_false]
    intro o ho hh
    obtain ⟨w, hw', hh⟩ := List.any_eq_true.1 hh
    obtain ⟨j, hj, rfl⟩ := List.mem_map.1 (hok.its.mem_iff.2 hw')
    have := hnh j hj o ho
    rw [show holdsV j.abs.2.2 o.id = holdsV (j.ops.map OV.abs) o.id from rfl, this] at hh
    cases hh
  rw [hany, if_neg Bool.false_ne_true] at hE1
  rw [hst0 hE1, hE1]
  obtain ⟨q, hq⟩ : ∃ q, q = (is.filter fun j => decide (j.txn < i.txn)).length := ⟨_, rfl⟩
  have hspl := ins_split (fun j : IV => j.txn) i.txn hok.ss
  rw [← hq] at hspl
  have hqn : q ≤ is.length := by rw [hq]; exact List.length_filter_le _ _
  refine Q.r ?_; (repeat (intro b1; refine Q.r ?_))
  refine swp_cutB (σ := Unit) (fun _ => [(0, ptrV p), (3, .pointer (some ⟨b1, 0, none⟩)), (10, .int .i64 q)]) (fun _ => rP p st.dim a es c a' is c' st.mark :: roM M :: pt b1 (cl [.int .u64 i.txn, .int .u64 i.after, .slice i.a i.ops.length i.c] 177) :: L) (fun _ => True) ?_ ?_
  · refine swp_loop (σ := Nat) (fun k => [(0, ptrV p), (3, .pointer (some ⟨b1, 0, none⟩)), (58, .slice a' is.length c'), (59, .int .i64 is.length), (10, .int .i64 ((is.take k).filter fun j => decide (j.txn < i.txn)).length), (60, .int .i64 k)]) (fun _ => rP p st.dim a es c a' is c' st.mark :: roM M :: pt b1 (cl [.int .u64 i.txn, .int .u64 i.after, .slice i.a i.ops.length i.c] 177) :: L)
      (fun k => k ≤ is.length) (fun k => is.length - k) 0 ⟨rfl, rfl, rfl, rfl, rfl, rfl, trivial⟩ (by repeat (first | exact Ent.refl _ | exact Ent.nil | refine Ent.pick ?_ | refine Ent.nilS ?_ | refine Ent.nilM ?_ | refine Ent.drop ?_)) (by omega) ?_
    intro k hk
    by_cases hlt : k < is.length
    · obtain ⟨x, hx⟩ := mem_get hlt
      have hrs : RdS (rP p st.dim a es c a' is c' st.mark :: roM M :: pt b1 (cl [.int .u64 i.txn, .int .u64 i.after, .slice i.a i.ops.length i.c] 177) :: L) a' is.length 3 (is.flatMap IV.cells) := hok.sI.rd
      obtain ⟨b, oo, hia, hr⟩ := RdS.elem (g := IV.cells) (fun _ => rfl) hrs hx rfl
      clear hrs
      rw [hia] at hr ⊢
      have hfl := List.length_filter_le (fun j : IV => decide (j.txn < i.txn)) (is.take k)
      rw [List.length_take] at hfl
      by_cases hxt : x.txn < i.txn
      · have e : ((is.take (k + 1)).filter fun j => decide (j.txn < i.txn)).length = ((is.take k).filter fun j => decide (j.txn < i.txn)).length + 1 := by rw [take_snoc hx, List.filter_append]; simp [hxt]
        refine Q.r ?_; (repeat (intro b1; refine Q.r ?_))
        refine ⟨k + 1, ⟨rfl, rfl, rfl, rfl, ?_, rfl, trivial⟩, by repeat (first | exact Ent.refl _ | exact Ent.nil | refine Ent.pick ?_ | refine Ent.nilS ?_ | refine Ent.nilM ?_ | refine Ent.drop ?_), by omega, by omega⟩
        rw [e]; rfl
      · have e : ((is.take (k + 1)).filter fun j => decide (j.txn < i.txn)).length = ((is.take k).filter fun j => decide (j.txn < i.txn)).length := by rw [take_snoc hx, List.filter_append]; simp [hxt]
        refine Q.r ?_; (repeat (intro b1; refine Q.r ?_))
        refine ⟨k + 1, ⟨rfl, rfl, rfl, rfl, ?_, rfl, trivial⟩, by repeat (first | exact Ent.refl _ | exact Ent.nil | refine Ent.pick ?_ | refine Ent.nilS ?_ | refine Ent.nilM ?_ | refine Ent.drop ?_), by omega, by omega⟩
        rw [e]; rfl
    · have hke : k = is.length := by omega
      subst hke
      refine Q.r ?_; (repeat (intro b1; refine Q.r ?_))
      refine ⟨(), ⟨rfl, rfl, ?_, trivial⟩, Ent.refl _, trivial⟩
      rw [hq, List.take_length]; rfl
  intro uu2 _
  refine Q.r ?_; (repeat (intro b1; refine Q.r ?_))
  refine S.cr rfl (Few_spec 100 i.a i.c i.ops _ h.sub hc (by omega) (by omega)) ?_
  rintro _ _ ⟨a5, c5, us, hus, rfl, rfl⟩
  rw [few_id (by rw [List.length_map] at k2 ⊢; omega) (fun o ho => by have := (k4 o ho).1; omega)] at hus
  refine Q.r ?_; (repeat (intro b1; refine Q.r ?_))
  refine swp_abs a5 (fun M1 hl1 hs1 => ?_)
  refine swp_absVc us (fun M2 hl2' hs2 hsc => ?_)
  have hcI := hok.cI
  have hrd : ∀ L, HasM M2 L → RdS L a' is.length 3 (is.flatMap IV.cells) := fun L _ => (hok.sI.mono (hl1.trans hl2')).rd
  have hat := SlM.at hok.sI
  obtain ⟨nw, hnw⟩ : ∃ nw : IV, nw = ⟨i.txn, i.after, a5, c5, us⟩ := ⟨_, rfl⟩
  refine Q.r ?_; (repeat (intro b1; refine Q.r ?_))
  refine swp_cutT (σ := Option Addr × Nat) (fun _ => []) (fun s => slO 177 3 s.1 (q + 1 + (is.length - q)) s.2 ((is.flatMap IV.cells).take (q * 3) ++ nw.cells ++ (is.flatMap IV.cells).drop (q * 3)) :: pt p (cl [.int .i64 st.dim, .slice a es.length c, .slice s.1 (q + 1 + (is.length - q)) s.2, .int .u64 st.mark] 88) :: roM M2 :: L) (fun _ => True) ?_ ?_
  · rw [hnw]
    refine Q.dgo [false, true, true] [1, 8, 10, 11, 18, 21] [21] [0, 2, 3, 4, 5, 6, 7, 9, 12, 13, 14, 15, 16, 17, 99999, 0, 0, 0, 0, 0, 0, 0] ?_
    repeat (first | refine D.endA ?_ | refine Q.dy rfl rfl rfl ?_ | refine Q.dp rfl rfl rfl ?_ | refine D.end_ ?_ | refine Q.endH ?_ | (refine D.e rfl rfl rfl ?_; (first | refine S.gskip1 rfl ?_ | refine S.gskip rfl ?_ | refine S.y (Y.gskipU rfl) ?_); refine opsS_nil ?_; refine N.tn ?_) | refine Q.dT rfl rfl rfl ?_ | refine Q.dF rfl rfl rfl ?_)
    refine D.yp rfl rfl rfl (Y.slT (h := q) rfl rfl rfl (by omega)) ?_
    repeat (first | refine D.endA ?_ | refine Q.dy rfl rfl rfl ?_ | refine Q.dp rfl rfl rfl ?_ | refine D.end_ ?_ | refine Q.endH ?_ | (refine D.e rfl rfl rfl ?_; (first | refine S.gskip1 rfl ?_ | refine S.gskip rfl ?_ | refine S.y (Y.gskipU rfl) ?_); refine opsS_nil ?_; refine N.tn ?_) | refine Q.dT rfl rfl rfl ?_ | refine Q.dF rfl rfl rfl ?_)
    refine D.yp rfl rfl rfl (Y.slFa (l := q) rfl rfl rfl hqn hat) ?_
    refine D.two 1 10 [99999, 0, 0, 0, 0, 0, 0] [1, 8, 11, 18, 19, 20, 21] (by kernel_rfl) rfl rfl rfl rfl (by kernel_rfl) (by kernel_rfl) ?_ ?_
    · refine S.bs rfl rfl rfl rfl rfl (fun bz => ?_); refine opsS_ent (slO_fold (sz := 3) (m := 0) rfl) ?_; (repeat (first | (refine GQ.y ?_; refine Q.y ?_) | refine Q.go ?_ | (refine GQ.g ?_; refine Q.gq ?_) | (refine GQ.s ?_; refine Q.st ?_)))
      refine D.two 8 10 [10, 11, 18, 19, 20, 21] [8, 11, 18, 19, 20, 21] (by kernel_rfl) rfl rfl rfl rfl (by kernel_rfl) (by kernel_rfl) ?_ ?_
      · refine S.app0 rfl rfl rfl (SrcS.rd (RdS.take (k := q) (hrd _ inferInstance) (by omega)) (by rw [flat_take (sz := 3) (fun _ => rfl)]; exact IV_one _)) (by rfl) (by omega) (by omega) (fun a6 c6 => ?_); (repeat (first | (refine GQ.y ?_; refine Q.y ?_) | refine Q.go ?_ | (refine GQ.g ?_; refine Q.gq ?_) | (refine GQ.s ?_; refine Q.st ?_)))
        refine D.e rfl rfl rfl ?_
        refine S.bs rfl rfl rfl rfl (by repeat (first | exact nz | (apply cz; exact rfl) | exact rfl)) (fun b8 => ?_); (repeat (first | (refine GQ.y ?_; refine Q.y ?_) | refine Q.go ?_ | (refine GQ.g ?_; refine Q.gq ?_) | (refine GQ.s ?_; refine Q.st ?_)))
        refine D.e rfl rfl rfl ?_
        refine S.app rfl rfl (SrcS.sl RdC.row (by rfl) (by rfl)) (by rfl) (by omega) (by omega) (fun a7 c7 => ?_); (repeat (first | (refine GQ.y ?_; refine Q.y ?_) | refine Q.go ?_ | (refine GQ.g ?_; refine Q.gq ?_) | (refine GQ.s ?_; refine Q.st ?_)))
        refine D.e rfl rfl rfl ?_
        refine S.app rfl rfl (SrcS.rd (RdS.fromA (l := q) (hrd _ inferInstance) (by omega) hcI) (by rw [flat_drop (sz := 3) (fun _ => rfl)]; exact IV_one _)) (by rfl) (by omega) (by omega) (fun a8 c8 => ?_); (repeat (first | (refine GQ.y ?_; refine Q.y ?_) | refine Q.go ?_ | (refine GQ.g ?_; refine Q.gq ?_) | (refine GQ.s ?_; refine Q.st ?_))); (repeat (first | refine D.endA ?_ | refine Q.dy rfl rfl rfl ?_ | refine Q.dp rfl rfl rfl ?_ | refine D.end_ ?_ | refine Q.endH ?_ | (refine D.e rfl rfl rfl ?_; (first | refine S.gskip1 rfl ?_ | refine S.gskip rfl ?_ | refine S.y (Y.gskipU rfl) ?_); refine opsS_nil ?_; refine N.tn ?_) | refine Q.dT rfl rfl rfl ?_ | refine Q.dF rfl rfl rfl ?_)); refine Q.dc rfl rfl rfl rfl ?_; (repeat (first | (refine GQ.y ?_; refine Q.y ?_) | refine Q.go ?_ | (refine GQ.g ?_; refine Q.gq ?_) | (refine GQ.s ?_; refine Q.st ?_))); (repeat (first | refine D.endA ?_ | refine Q.dy rfl rfl rfl ?_ | refine Q.dp rfl rfl rfl ?_ | refine D.end_ ?_ | refine Q.endH ?_ | (refine D.e rfl rfl rfl ?_; (first | refine S.gskip1 rfl ?_ | refine S.gskip rfl ?_ | refine S.y (Y.gskipU rfl) ?_); refine opsS_nil ?_; refine N.tn ?_) | refine Q.dT rfl rfl rfl ?_ | refine Q.dF rfl rfl rfl ?_))
        refine N.tn ⟨(a8, c8), trivial, ?_, trivial⟩
        (try dsimp only); repeat (first | exact Ent.refl _ | exact Ent.nil | refine Ent.pick ?_ | refine Ent.nilS ?_ | refine Ent.nilM ?_ | refine Ent.drop ?_)
      · refine S.bs rfl rfl rfl rfl (by repeat (first | exact nz | (apply cz; exact rfl) | exact rfl)) (fun b8 => ?_); (repeat (first | (refine GQ.y ?_; refine Q.y ?_) | refine Q.go ?_ | (refine GQ.g ?_; refine Q.gq ?_) | (refine GQ.s ?_; refine Q.st ?_)))
        refine D.e rfl rfl rfl ?_
        refine S.app0 rfl rfl rfl (SrcS.rd (RdS.take (k := q) (hrd _ inferInstance) (by omega)) (by rw [flat_take (sz := 3) (fun _ => rfl)]; exact IV_one _)) (by rfl) (by omega) (by omega) (fun a6 c6 => ?_); (repeat (first | (refine GQ.y ?_; refine Q.y ?_) | refine Q.go ?_ | (refine GQ.g ?_; refine Q.gq ?_) | (refine GQ.s ?_; refine Q.st ?_)))
        refine D.e rfl rfl rfl ?_
        refine S.app rfl rfl (SrcS.sl RdC.row (by rfl) (by rfl)) (by rfl) (by omega) (by omega) (fun a7 c7 => ?_); (repeat (first | (refine GQ.y ?_; refine Q.y ?_) | refine Q.go ?_ | (refine GQ.g ?_; refine Q.gq ?_) | (refine GQ.s ?_; refine Q.st ?_)))
        refine D.e rfl rfl rfl ?_
        refine S.app rfl rfl (SrcS.rd (RdS.fromA (l := q) (hrd _ inferInstance) (by omega) hcI) (by rw [flat_drop (sz := 3) (fun _ => rfl)]; exact IV_one _)) (by rfl) (by omega) (by omega) (fun a8 c8 => ?_); (repeat (first | (refine GQ.y ?_; refine Q.y ?_) | refine Q.go ?_ | (refine GQ.g ?_; refine Q.gq ?_) | (refine GQ.s ?_; refine Q.st ?_))); (repeat (first | refine D.endA ?_ | refine Q.dy rfl rfl rfl ?_ | refine Q.dp rfl rfl rfl ?_ | refine D.end_ ?_ | refine Q.endH ?_ | (refine D.e rfl rfl rfl ?_; (first | refine S.gskip1 rfl ?_ | refine S.gskip rfl ?_ | refine S.y (Y.gskipU rfl) ?_); refine opsS_nil ?_; refine N.tn ?_) | refine Q.dT rfl rfl rfl ?_ | refine Q.dF rfl rfl rfl ?_)); refine Q.dc rfl rfl rfl rfl ?_; (repeat (first | (refine GQ.y ?_; refine Q.y ?_) | refine Q.go ?_ | (refine GQ.g ?_; refine Q.gq ?_) | (refine GQ.s ?_; refine Q.st ?_))); (repeat (first | refine D.endA ?_ | refine Q.dy rfl rfl rfl ?_ | refine Q.dp rfl rfl rfl ?_ | refine D.end_ ?_ | refine Q.endH ?_ | (refine D.e rfl rfl rfl ?_; (first | refine S.gskip1 rfl ?_ | refine S.gskip rfl ?_ | refine S.y (Y.gskipU rfl) ?_); refine opsS_nil ?_; refine N.tn ?_) | refine Q.dT rfl rfl rfl ?_ | refine Q.dF rfl rfl rfl ?_))
        refine N.tn ⟨(a8, c8), trivial, ?_, trivial⟩
        (try dsimp only); repeat (first | exact Ent.refl _ | exact Ent.nil | refine Ent.pick ?_ | refine Ent.nilS ?_ | refine Ent.nilM ?_ | refine Ent.drop ?_)
    · refine S.bs rfl rfl rfl rfl (by repeat (first | exact nz | (apply cz; exact rfl) | exact rfl)) (fun b8 => ?_); (repeat (first | (refine GQ.y ?_; refine Q.y ?_) | refine Q.go ?_ | (refine GQ.g ?_; refine Q.gq ?_) | (refine GQ.s ?_; refine Q.st ?_)))
      refine D.e rfl rfl rfl ?_
      refine S.bs rfl rfl rfl rfl rfl (fun bz => ?_); refine opsS_ent (slO_fold (sz := 3) (m := 0) rfl) ?_; (repeat (first | (refine GQ.y ?_; refine Q.y ?_) | refine Q.go ?_ | (refine GQ.g ?_; refine Q.gq ?_) | (refine GQ.s ?_; refine Q.st ?_)))
      refine D.e rfl rfl rfl ?_
      refine S.app0 rfl rfl rfl (SrcS.rd (RdS.take (k := q) (hrd _ inferInstance) (by omega)) (by rw [flat_take (sz := 3) (fun _ => rfl)]; exact IV_one _)) (by rfl) (by omega) (by omega) (fun a6 c6 => ?_); (repeat (first | (refine GQ.y ?_; refine Q.y ?_) | refine Q.go ?_ | (refine GQ.g ?_; refine Q.gq ?_) | (refine GQ.s ?_; refine Q.st ?_)))
      refine D.e rfl rfl rfl ?_
      refine S.app rfl rfl (SrcS.sl RdC.row (by rfl) (by rfl)) (by rfl) (by omega) (by omega) (fun a7 c7 => ?_); (repeat (first | (refine GQ.y ?_; refine Q.y ?_) | refine Q.go ?_ | (refine GQ.g ?_; refine Q.gq ?_) | (refine GQ.s ?_; refine Q.st ?_)))
      refine D.e rfl rfl rfl ?_
      refine S.app rfl rfl (SrcS.rd (RdS.fromA (l := q) (hrd _ inferInstance) (by omega) hcI) (by rw [flat_drop (sz := 3) (fun _ => rfl)]; exact IV_one _)) (by rfl) (by omega) (by omega) (fun a8 c8 => ?_); (repeat (first | (refine GQ.y ?_; refine Q.y ?_) | refine Q.go ?_ | (refine GQ.g ?_; refine Q.gq ?_) | (refine GQ.s ?_; refine Q.st ?_))); (repeat (first | refine D.endA ?_ | refine Q.dy rfl rfl rfl ?_ | refine Q.dp rfl rfl rfl ?_ | refine D.end_ ?_ | refine Q.endH ?_ | (refine D.e rfl rfl rfl ?_; (first | refine S.gskip1 rfl ?_ | refine S.gskip rfl ?_ | refine S.y (Y.gskipU rfl) ?_); refine opsS_nil ?_; refine N.tn ?_) | refine Q.dT rfl rfl rfl ?_ | refine Q.dF rfl rfl rfl ?_)); refine Q.dc rfl rfl rfl rfl ?_; (repeat (first | (refine GQ.y ?_; refine Q.y ?_) | refine Q.go ?_ | (refine GQ.g ?_; refine Q.gq ?_) | (refine GQ.s ?_; refine Q.st ?_))); (repeat (first | refine D.endA ?_ | refine Q.dy rfl rfl rfl ?_ | refine Q.dp rfl rfl rfl ?_ | refine D.end_ ?_ | refine Q.endH ?_ | (refine D.e rfl rfl rfl ?_; (first | refine S.gskip1 rfl ?_ | refine S.gskip rfl ?_ | refine S.y (Y.gskipU rfl) ?_); refine opsS_nil ?_; refine N.tn ?_) | refine Q.dT rfl rfl rfl ?_ | refine Q.dF rfl rfl rfl ?_))
      refine N.tn ⟨(a8, c8), trivial, ?_, trivial⟩
      (try dsimp only); repeat (first | exact Ent.refl _ | exact Ent.nil | refine Ent.pick ?_ | refine Ent.nilS ?_ | refine Ent.nilM ?_ | refine Ent.drop ?_)
  rintro ⟨a9, c9⟩ -
  dsimp only
  refine swp_cap a9 fun hc9 => swp_abs a9 fun M3 hl3 hsl => ?_
  refine Q.r ?_; (repeat (intro b1; refine Q.r ?_))
  obtain ⟨is2, his2⟩ : ∃ is2, is2 = is.take q ++ nw :: is.drop q := ⟨_, rfl⟩
  have hl2 : is2.length = q + 1 + (is.length - q) := by rw [his2]; simp; omega
  have hcells : (is.flatMap IV.cells).take (q * 3) ++ nw.cells ++ (is.flatMap IV.cells).drop (q * 3) = is2.flatMap IV.cells := by
    rw [flat_take (sz := 3) (fun _ => rfl), flat_drop (sz := 3) (fun _ => rfl), his2, List.flatMap_append, List.flatMap_cons, List.append_assoc]
  rw [hcells] at hsl
  rw [← hl2] at hsl hc9 ⊢
  have habs : nw.abs = (i.txn, i.after, i.ops.map OV.abs) := by rw [hnw]; show (i.txn, i.after, us.map OV.abs) = _; rw [hus]
  have hnt : nw.txn = i.txn := by rw [hnw]
  have hins := hok.ins (hl1.trans (hl2'.trans hl3)) (nw := nw) (by rw [hnw]; exact ⟨hs1.mono (hl2'.trans hl3), fun o ho => (hs2 o ho).mono hl3⟩) (by rw [hnt]; exact hno') (by rw [hnw]; exact hsc) (is2 := is2) (by rw [his2, hspl.1, hspl.2, hnt]) hsl hc9
  rw [habs] at hins
  refine N.r1 (RV.tmp rfl RV.nil) ?_ ⟨rfl, rfl⟩
  refine Ent.trans ?_ (ref_shut hins)
  repeat (first | exact Ent.refl _ | exact Ent.nil | refine Ent.pick ?_ | refine Ent.nilS ?_ | refine Ent.nilM ?_ | refine Ent.drop ?_)
end Go.Proofs.YtjidejcehmamkaaGreatDoor
namespace Go.Proofs.YtjidejcehmamkaaGreatDoor
open Go Go.SX
attribute [local irreducible] swp opsS thenS blockS retS CallsS St Ent YieldS anyS drawS
set_option maxHeartbeats 1000000 in
theorem RPut_spec (a : Option Addr) (c : Nat) (ovs : List OV) (o : OV) (L : List HP) (h : RdS L a ovs.length 2 (ovs.flatMap OV.cells)) (ho : RdS L o.a o.vec.length 1 (o.vec.map I32)) (hoc : o.vec.length ≤ o.c) (hov : o.vec.length ≤ 10) (hn : ovs.length ≤ 1000000)
    (h1 : 1 ≤ o.id) (h2 : o.id ≤ 1099511627776) (h3 : 0 < o.vec.length → rightV o.vec = true) (h4 : ∀ u ∈ ovs, u.id < o.id) :
    CallsS Tryz.prog 142 [.slice a ovs.length c, o.val] L (fun r L' => ∃ a2 c2 a' c', r = .tuple #[.slice a2 (ovs.length + 1) c2, .int .i64 0] ∧ L' = slO 175 2 a2 (ovs.length + 1) c2 (ovs.flatMap OV.cells ++ OV.cells ⟨o.id, a', c', o.vec⟩) :: slO 21 1 a' o.vec.length c' (o.vec.map I32) :: L) := by
  refine CallsS.of_body Tryz.func142 rfl rfl rfl ?_
  refine Q.r ?_; (repeat (intro b1; refine Q.r ?_))
  refine opsS_cutT (σ := Unit) (fun _ => [(0, .slice a ovs.length c), (3, .pointer (some ⟨b1, 0, none⟩)), (26, .bool false)]) (fun _ => pt b1 (cl o.cells 175) :: L) (fun _ => True) ?_ ?_
  · by_cases h0 : 0 < o.vec.length
    · refine Q.r ?_; (repeat (intro b1; refine Q.r ?_))
      refine S.cr rfl (RRight_spec o.a o.c o.vec _ ho.sub (by omega)) ?_
      rintro _ _ ⟨rfl, rfl⟩
      rw [h3 h0]
      refine Q.r ?_; (repeat (intro b1; refine Q.r ?_))
      exact ⟨(), ⟨rfl, rfl, rfl, trivial⟩, Ent.refl _, trivial⟩
    · refine Q.r ?_; (repeat (intro b1; refine Q.r ?_))
      exact ⟨(), ⟨rfl, rfl, by rw [decide_eq_false (by omega)]; rfl, trivial⟩, Ent.refl _, trivial⟩
  intro _ _
  refine Q.r ?_; (repeat (intro b1; refine Q.r ?_))
  rename_i bx
  refine swp_loop (σ := Nat) (fun k => [(0, .slice a ovs.length c), (3, .pointer (some ⟨b1, 0, none⟩)), (28, .slice a ovs.length c), (29, .int .i64 ovs.length), (30, .int .i64 k)]) (fun _ => pt b1 (cl o.cells 175) :: L)
    (fun k => k ≤ ovs.length) (fun k => ovs.length - k) 0 ⟨rfl, rfl, rfl, rfl, rfl, trivial⟩ (Ent.refl _) (by omega) ?_
  intro k hk
  by_cases hlt : k < ovs.length
  · obtain ⟨x, hx⟩ := mem_get hlt
    have h5 := h4 x (List.mem_of_getElem? hx)
    have hrs : RdS (pt b1 (cl o.cells 175) :: L) a ovs.length 2 (ovs.flatMap OV.cells) := h.sub
    obtain ⟨b, oo, hia, hr⟩ := RdS.elem (g := OV.cells) (fun _ => rfl) hrs hx rfl
    clear hrs
    rw [hia]
    refine Q.r ?_; (repeat (intro b1; refine Q.r ?_))
    exact ⟨k + 1, ⟨rfl, rfl, rfl, rfl, rfl, trivial⟩, by repeat (first | exact Ent.refl _ | exact Ent.nil | refine Ent.pick ?_ | refine Ent.nilS ?_ | refine Ent.nilM ?_ | refine Ent.drop ?_), by omega, by omega⟩
  · have hke : k = ovs.length := by omega
    subst hke
    refine Q.r ?_; (repeat (intro b1; refine Q.r ?_))
    refine Q.dgo [true] [0, 2, 7, 9, 10] [] [1, 3, 4, 5, 6, 0, 2, 7, 8, 9, 10, 11, 12] ?_
    repeat (first | refine D.endA ?_ | refine Q.dy rfl rfl rfl ?_ | refine Q.dp rfl rfl rfl ?_ | refine D.end_ ?_ | refine Q.endH ?_ | (refine D.e rfl rfl rfl ?_; (first | refine S.gskip1 rfl ?_ | refine S.gskip rfl ?_ | refine S.y (Y.gskipU rfl) ?_); refine opsS_nil ?_; refine N.tn ?_) | refine Q.dT rfl rfl rfl ?_ | refine Q.dF rfl rfl rfl ?_)
    refine D.e rfl rfl rfl ?_
    refine S.bs rfl rfl rfl rfl rfl (fun bz => ?_)
    refine opsS_ent (slO_fold (sz := 2) (m := 0) rfl) ?_
    repeat (first | (refine GQ.y ?_; refine Q.y ?_) | refine Q.go ?_ | (refine GQ.g ?_; refine Q.gq ?_) | (refine GQ.s ?_; refine Q.st ?_))
    repeat (first | refine D.endA ?_ | refine Q.dy rfl rfl rfl ?_ | refine Q.dp rfl rfl rfl ?_ | refine D.end_ ?_ | refine Q.endH ?_ | (refine D.e rfl rfl rfl ?_; (first | refine S.gskip1 rfl ?_ | refine S.gskip rfl ?_ | refine S.y (Y.gskipU rfl) ?_); refine opsS_nil ?_; refine N.tn ?_) | refine Q.dT rfl rfl rfl ?_ | refine Q.dF rfl rfl rfl ?_)
    refine D.e rfl rfl rfl ?_
    refine S.app0 rfl rfl rfl (SrcS.rd h.sub (OV_one _)) (by rfl) (by omega) (by omega) (fun a6 c6 => ?_)
    repeat (first | (refine GQ.y ?_; refine Q.y ?_) | refine Q.go ?_ | (refine GQ.g ?_; refine Q.gq ?_) | (refine GQ.s ?_; refine Q.st ?_))
    repeat (first | refine D.endA ?_ | refine Q.dy rfl rfl rfl ?_ | refine Q.dp rfl rfl rfl ?_ | refine D.end_ ?_ | refine Q.endH ?_ | (refine D.e rfl rfl rfl ?_; (first | refine S.gskip1 rfl ?_ | refine S.gskip rfl ?_ | refine S.y (Y.gskipU rfl) ?_); refine opsS_nil ?_; refine N.tn ?_) | refine Q.dT rfl rfl rfl ?_ | refine Q.dF rfl rfl rfl ?_)
    refine D.e rfl rfl rfl ?_
    refine S.cr rfl (CutVec_spec o.a o.c 100 o.vec _ ho.sub hoc (by omega)) ?_
    rintro _ _ ⟨a', c2, rfl, rfl⟩
    rw [List.take_of_length_le (l := o.vec) (i := 100) (by omega)]
    refine Q.r ?_; (repeat (intro b1; refine Q.r ?_))
    repeat (first | refine D.endA ?_ | refine Q.dy rfl rfl rfl ?_ | refine Q.dp rfl rfl rfl ?_ | refine D.end_ ?_ | refine Q.endH ?_ | (refine D.e rfl rfl rfl ?_; (first | refine S.gskip1 rfl ?_ | refine S.gskip rfl ?_ | refine S.y (Y.gskipU rfl) ?_); refine opsS_nil ?_; refine N.tn ?_) | refine Q.dT rfl rfl rfl ?_ | refine Q.dF rfl rfl rfl ?_)
    refine D.e rfl rfl rfl ?_
    refine S.bs rfl rfl rfl rfl (by repeat (first | exact nz | (apply cz; exact rfl) | exact rfl)) (fun b8 => ?_)
    repeat (first | (refine GQ.y ?_; refine Q.y ?_) | refine Q.go ?_ | (refine GQ.g ?_; refine Q.gq ?_) | (refine GQ.s ?_; refine Q.st ?_))
    repeat (first | refine D.endA ?_ | refine Q.dy rfl rfl rfl ?_ | refine Q.dp rfl rfl rfl ?_ | refine D.end_ ?_ | refine Q.endH ?_ | (refine D.e rfl rfl rfl ?_; (first | refine S.gskip1 rfl ?_ | refine S.gskip rfl ?_ | refine S.y (Y.gskipU rfl) ?_); refine opsS_nil ?_; refine N.tn ?_) | refine Q.dT rfl rfl rfl ?_ | refine Q.dF rfl rfl rfl ?_)
    refine D.e rfl rfl rfl ?_
    refine S.app rfl rfl (SrcS.sl RdC.row (by rfl) (by rfl)) (by rfl) (by omega) (by omega) (fun a7 c7 => ?_)
    repeat (first | (refine GQ.y ?_; refine Q.y ?_) | refine Q.go ?_ | (refine GQ.g ?_; refine Q.gq ?_) | (refine GQ.s ?_; refine Q.st ?_))
    repeat (first | refine D.endA ?_ | refine Q.dy rfl rfl rfl ?_ | refine Q.dp rfl rfl rfl ?_ | refine D.end_ ?_ | refine Q.endH ?_ | (refine D.e rfl rfl rfl ?_; (first | refine S.gskip1 rfl ?_ | refine S.gskip rfl ?_ | refine S.y (Y.gskipU rfl) ?_); refine opsS_nil ?_; refine N.tn ?_) | refine Q.dT rfl rfl rfl ?_ | refine Q.dF rfl rfl rfl ?_)
    refine Q.r ?_; (repeat (intro b1; refine Q.r ?_))
    exact N.r2 (RV.tmp rfl (RV.tmp rfl RV.nil)) (by repeat (first | exact Ent.refl _ | exact Ent.nil | refine Ent.pick ?_ | refine Ent.nilS ?_ | refine Ent.nilM ?_ | refine Ent.drop ?_)) ⟨a7, c7, a', c2, rfl, rfl⟩
def insE (es : List EV) (nw : EV) : List EV := es.filter (fun e => decide (e.id < nw.id)) ++ nw :: es.filter (fun e => decide (nw.id < e.id))
theorem insE_none {es : List EV} {nw : EV} (h : ∀ e ∈ es, e.id < nw.id) : insE es nw = es ++ [nw] := by
  unfold insE
  rw [List.filter_eq_self.2 (fun e he => by have := h e he; simp; omega), List.filter_eq_nil_iff.2 (fun e he => by have := h e he; simp; omega)]
theorem insE_at {es : List EV} {nw e : EV} (h : ∀ e ∈ es, e.id < nw.id) (he : nw.id = e.id) : insE (es ++ [e]) nw = es ++ [nw] := by
  unfold insE
  have h1 : es.filter (fun e => decide (e.id < nw.id)) = es := List.filter_eq_self.2 (fun e he => by have := h e he; simp; omega)
  have h2 : es.filter (fun e => decide (nw.id < e.id)) = [] := List.filter_eq_nil_iff.2 (fun e he => by have := h e he; simp; omega)
  rw [List.filter_append, List.filter_append, h1, h2]
  simp [List.filter_cons, he]
theorem insE_bef {es : List EV} {nw e : EV} (h : ∀ e ∈ es, e.id < nw.id) (he : nw.id < e.id) : insE (es ++ [e]) nw = es ++ [nw] ++ [e] := by
  unfold insE
  have h1 : es.filter (fun e => decide (e.id < nw.id)) = es := List.filter_eq_self.2 (fun e he => by have := h e he; simp; omega)
  have h2 : es.filter (fun e => decide (nw.id < e.id)) = [] := List.filter_eq_nil_iff.2 (fun e he => by have := h e he; simp; omega)
  rw [List.filter_append, List.filter_append, h1, h2]
  have : ¬ e.id < nw.id := by omega
  simp [List.filter_cons, he, this]
theorem insE_aft {es : List EV} {nw e : EV} (he : nw.id < e.id) : insE (es ++ [e]) nw = insE es nw ++ [e] := by
  unfold insE
  rw [List.filter_append, List.filter_append]
  have : ¬ e.id < nw.id := by omega
  simp [List.filter_cons, he, this]
set_option maxHeartbeats 2000000 in
theorem RSet_spec (p : Nat) (dim : Int) (a : Option Addr) (es : List EV) (c : Nat) (a' : Option Addr) (is : List IV) (c' : Nat) (mark : Int) (nw : EV) (M : Nat → Option Obj) (A : List HP) (h : SlM M a es.length 2 (es.flatMap EV.cells)) (hn : es.length ≤ 1000000) (hs : (es.map (·.id)).Pairwise (· < ·)) (hv : 0 < nw.vs.length) :
    CallsS Tryz.prog 143 [ptrV p, .int .u64 nw.id, .slice nw.a nw.vs.length nw.c] (rP p dim a es c a' is c' mark :: roM M :: A)
      (fun v L' => ∃ a2 c2, v = .tuple #[] ∧ L' = slO 173 2 a2 (insE es nw).length c2 ((insE es nw).flatMap EV.cells) :: rP p dim a2 (insE es nw) c2 a' is c' mark :: roM M :: A) := by
  refine CallsS.of_body Tryz.func143 rfl rfl rfl ?_
  refine Q.r ?_; (repeat (intro b1; refine Q.r ?_))
  refine swp_cutB (σ := Option Addr × Nat × List EV × Bool) (fun u => [(0, ptrV p), (1, .int .u64 nw.id), (2, .slice nw.a nw.vs.length nw.c), (6, .slice u.1 u.2.2.1.length u.2.1), (7, .bool u.2.2.2)])
    (fun u => slO 173 2 u.1 u.2.2.1.length u.2.1 (u.2.2.1.flatMap EV.cells) :: rP p dim a es c a' is c' mark :: roM M :: A) (fun u => (u.2.2.2 = false ∧ u.2.2.1 = es ∧ ∀ e ∈ es, e.id < nw.id) ∨ (u.2.2.2 = true ∧ u.2.2.1 = insE es nw)) ?_ ?_
  · refine swp_loop (σ := Nat × Option Addr × Nat × List EV × Bool) (fun u => [(0, ptrV p), (1, .int .u64 nw.id), (2, .slice nw.a nw.vs.length nw.c), (16, .slice a es.length c), (17, .int .i64 es.length), (6, .slice u.2.1 u.2.2.2.1.length u.2.2.1), (7, .bool u.2.2.2.2), (18, .int .i64 u.1)])
      (fun u => slO 173 2 u.2.1 u.2.2.2.1.length u.2.2.1 (u.2.2.2.1.flatMap EV.cells) :: rP p dim a es c a' is c' mark :: roM M :: A)
      (fun u => u.1 ≤ es.length ∧ u.2.2.2.1.length ≤ u.1 + 1 ∧ ((u.2.2.2.2 = false ∧ u.2.2.2.1 = es.take u.1 ∧ ∀ e ∈ es.take u.1, e.id < nw.id) ∨ (u.2.2.2.2 = true ∧ u.2.2.2.1 = insE (es.take u.1) nw ∧ ∃ e ∈ es.take u.1, nw.id ≤ e.id))) (fun u => es.length - u.1) (0, none, 0, [], false) ⟨rfl, rfl, rfl, rfl, rfl, rfl, congrArg some (congrArg Value.bool (decide_eq_false (by omega))), rfl, trivial⟩ ?_ ⟨by omega, by simp, .inl ⟨rfl, by simp, by simp⟩⟩ ?_
    · exact slO_nil
    rintro ⟨k, a3, c3, us, pl⟩ ⟨hk, hul, hinv⟩
    dsimp only at hk hul hinv ⊢
    by_cases hlt : k < es.length
    · obtain ⟨e, he⟩ := mem_get hlt
      have hrs : RdS (slO 173 2 a3 us.length c3 (us.flatMap EV.cells) :: rP p dim a es c a' is c' mark :: roM M :: A) a es.length 2 (es.flatMap EV.cells) := h.rd
      obtain ⟨b, oo, hia, hr⟩ := RdS.elem (g := EV.cells) (fun _ => rfl) hrs he rfl
      clear hrs
      rw [hia] at hr ⊢
      have hsrt : ∀ u ∈ es.take k, u.id < e.id := fun u hu => by
        have h2 := hs
        rw [← List.take_append_drop k es, List.map_append, List.pairwise_append] at h2
        have hd : e ∈ es.drop k := by
          rw [List.drop_eq_getElem_cons hlt]
          have := List.getElem?_eq_getElem hlt
          rw [he] at this
          rw [← Option.some.inj this]; simp
        exact h2.2.2 u.id (List.mem_map_of_mem hu) e.id (List.mem_map_of_mem hd)
      rcases hinv with ⟨rfl, hus, hall⟩ | ⟨rfl, hus, hex⟩
      · have hne : es.take k ++ [e] = es.take (k + 1) := (take_snoc he).symm
        by_cases c1 : nw.id ≤ e.id
        · by_cases c2 : e.id = nw.id
          · refine Q.r ?_; (repeat (intro b1; refine Q.r ?_))
            refine S.app rfl rfl (SrcS.sl RdC.row (by rfl) (by rfl)) (by rfl) (by omega) (by omega) (fun a7 c7 => ?_)
            refine Q.r ?_; (repeat (intro b1; refine Q.r ?_))
            refine ⟨(k + 1, a7, c7, us ++ [nw], true), ⟨rfl, rfl, rfl, rfl, rfl, congrArg some (by simp), rfl, rfl, trivial⟩, ?_, ⟨by dsimp only; omega, by simp; omega, .inr ⟨rfl, ?_, e, by rw [← hne]; simp, c1⟩⟩, by dsimp only; omega⟩
            · dsimp only
              rw [len_snoc, flat_snoc]
              repeat (first | exact Ent.refl _ | exact Ent.nil | refine Ent.pick ?_ | refine Ent.nilS ?_ | refine Ent.nilM ?_ | refine Ent.drop ?_)
            · dsimp only
              rw [← hne, hus, insE_at hall c2.symm]
          · refine Q.r ?_; (repeat (intro b1; refine Q.r ?_))
            refine S.app rfl rfl (SrcS.sl RdC.row (by rfl) (by rfl)) (by rfl) (by omega) (by omega) (fun a7 c7 => ?_)
            refine Q.r ?_; (repeat (intro b1; refine Q.r ?_))
            refine S.app rfl rfl (SrcS.sl RdC.row (by rfl) (by rfl)) (by rfl) (by omega) (by omega) (fun a8 c8 => ?_)
            refine Q.r ?_; (repeat (intro b1; refine Q.r ?_))
            refine ⟨(k + 1, a8, c8, us ++ [nw] ++ [e], true), ⟨rfl, rfl, rfl, rfl, rfl, congrArg some (by simp), rfl, rfl, trivial⟩, ?_, ⟨by dsimp only; omega, ?_, .inr ⟨rfl, ?_, e, by rw [← hne]; simp, c1⟩⟩, by dsimp only; omega⟩
            · dsimp only
              rw [len_snoc, flat_snoc, len_snoc, flat_snoc]
              repeat (first | exact Ent.refl _ | exact Ent.nil | refine Ent.pick ?_ | refine Ent.nilS ?_ | refine Ent.nilM ?_ | refine Ent.drop ?_)
            · dsimp only
              have : us.length = k := by rw [hus, List.length_take]; omega
              simp; omega
            · dsimp only
              rw [← hne, hus, insE_bef hall (by omega)]
        · refine Q.r ?_; (repeat (intro b1; refine Q.r ?_))
          refine S.app rfl rfl (SrcS.sl RdC.row (by rfl) (by rfl)) (by rfl) (by omega) (by omega) (fun a7 c7 => ?_)
          refine Q.r ?_; (repeat (intro b1; refine Q.r ?_))
          refine ⟨(k + 1, a7, c7, us ++ [e], false), ⟨rfl, rfl, rfl, rfl, rfl, congrArg some (by simp), rfl, rfl, trivial⟩, ?_, ⟨by dsimp only; omega, by simp; omega, .inl ⟨rfl, ?_, ?_⟩⟩, by dsimp only; omega⟩
          · dsimp only
            rw [len_snoc, flat_snoc]
            repeat (first | exact Ent.refl _ | exact Ent.nil | refine Ent.pick ?_ | refine Ent.nilS ?_ | refine Ent.nilM ?_ | refine Ent.drop ?_)
          · dsimp only
            rw [← hne, hus]
          · dsimp only
            rw [← hne]
            intro u hu
            rcases List.mem_append.1 hu with hu | hu
            · exact hall u hu
            · obtain rfl := List.mem_singleton.1 hu
              omega
      · obtain ⟨w, hw, hwi⟩ := hex
        have h5 := hsrt w hw
        have c2 : e.id ≠ nw.id := by omega
        have hne : es.take k ++ [e] = es.take (k + 1) := (take_snoc he).symm
        refine Q.r ?_; (repeat (intro b1; refine Q.r ?_))
        refine S.app rfl rfl (SrcS.sl RdC.row (by rfl) (by rfl)) (by rfl) (by omega) (by omega) (fun a7 c7 => ?_)
        refine Q.r ?_; (repeat (intro b1; refine Q.r ?_))
        refine ⟨(k + 1, a7, c7, us ++ [e], true), ⟨rfl, rfl, rfl, rfl, rfl, congrArg some (by simp), rfl, rfl, trivial⟩, ?_, ⟨by dsimp only; omega, by simp; omega, .inr ⟨rfl, ?_, w, by rw [← hne]; exact List.mem_append_left _ hw, hwi⟩⟩, by dsimp only; omega⟩
        · dsimp only
          rw [len_snoc, flat_snoc]
          repeat (first | exact Ent.refl _ | exact Ent.nil | refine Ent.pick ?_ | refine Ent.nilS ?_ | refine Ent.nilM ?_ | refine Ent.drop ?_)
        · dsimp only
          rw [← hne, hus, insE_aft (by omega)]
    · have hke : k = es.length := by omega
      subst hke
      rw [List.take_length] at hinv
      refine Q.r ?_; (repeat (intro b1; refine Q.r ?_))
      refine ⟨(a3, c3, us, pl), ⟨rfl, rfl, rfl, rfl, rfl, trivial⟩, Ent.refl _, ?_⟩
      rcases hinv with ⟨h1, h2, h3⟩ | ⟨h1, h2, h3⟩
      · exact .inl ⟨h1, h2, h3⟩
      · exact .inr ⟨h1, h2⟩
  rintro ⟨a3, c3, us, pl⟩ hinv
  dsimp only at hinv ⊢
  rcases hinv with ⟨rfl, rfl, hall⟩ | ⟨rfl, hus⟩
  · refine Q.r ?_; (repeat (intro b1; refine Q.r ?_))
    refine S.app rfl rfl (SrcS.sl RdC.row (by rfl) (by rfl)) (by rfl) (by omega) (by omega) (fun a7 c7 => ?_)
    refine Q.r ?_; (repeat (intro b1; refine Q.r ?_))
    refine N.n0 RV.nil (Ent.drop (Ent.refl _)) ⟨a7, c7, rfl, ?_⟩
    unfold rP
    rw [insE_none hall, len_snoc, flat_snoc]
  · subst hus
    refine Q.r ?_; (repeat (intro b1; refine Q.r ?_))
    exact N.n0 RV.nil (Ent.refl _) ⟨a3, c3, rfl, rfl⟩
end Go.Proofs.YtjidejcehmamkaaGreatDoor
namespace Go.Proofs.YtjidejcehmamkaaGreatDoor
open Go Go.SX
attribute [local irreducible] swp opsS thenS blockS retS CallsS St Ent YieldS anyS drawS
theorem keys_nodup {κ α : Type} [DecidableEq κ] {m : List (κ × α)} (h : keysOK m) : m.Nodup := by
  unfold keysOK at h
  rw [List.nodup_iff_pairwise_ne, List.pairwise_map] at h
  rw [List.nodup_iff_pairwise_ne]
  exact h.imp fun h1 h2 => h1 (by rw [h2])
theorem keys_of_lt {m : List (Int × VL)} (h : (m.map (·.1)).Pairwise (· < ·)) : keysOK m := by
  unfold keysOK
  rw [List.nodup_iff_pairwise_ne]
  exact h.imp fun h1 h2 => by omega
theorem insE_sorted {es : List EV} {nw : EV} (hs : (es.map (·.id)).Pairwise (· < ·)) : ((insE es nw).map (·.id)).Pairwise (· < ·) := by
  unfold insE
  rw [List.map_append, List.map_cons, List.pairwise_append]
  refine ⟨pw_filter hs _, List.pairwise_cons.2 ⟨fun y hy => ?_, pw_filter hs _⟩, fun x hx y hy => ?_⟩
  · obtain ⟨u, hu, rfl⟩ := List.mem_map.1 hy
    have h1 := (List.mem_filter.1 hu).2
    simpa using h1
  · obtain ⟨u, hu, rfl⟩ := List.mem_map.1 hx
    have h1 := (List.mem_filter.1 hu).2
    simp at h1
    rcases List.mem_cons.1 hy with rfl | hy
    · exact h1
    · obtain ⟨w, hw, rfl⟩ := List.mem_map.1 hy
      have h3 := (List.mem_filter.1 hw).2
      simp at h3; omega
theorem insE_mem {es : List EV} {nw e : EV} (h : e ∈ insE es nw) : e = nw ∨ e ∈ es ∧ e.id ≠ nw.id := by
  unfold insE at h
  rcases List.mem_append.1 h with h | h
  · have h1 := List.mem_filter.1 h
    have h2 := h1.2
    simp at h2
    exact .inr ⟨h1.1, by omega⟩
  rcases List.mem_cons.1 h with h | h
  · exact .inl h
  · have h1 := List.mem_filter.1 h
    have h2 := h1.2
    simp at h2
    exact .inr ⟨h1.1, by omega⟩
theorem insE_mem' {es : List EV} {nw e : EV} (h : e = nw ∨ e ∈ es ∧ e.id ≠ nw.id) : e ∈ insE es nw := by
  unfold insE
  rcases h with rfl | ⟨h1, h2⟩
  · simp
  · by_cases h3 : e.id < nw.id
    · exact List.mem_append_left _ (List.mem_filter.2 ⟨h1, by simpa using h3⟩)
    · refine List.mem_append_right _ (List.mem_cons_of_mem _ (List.mem_filter.2 ⟨h1, ?_⟩))
      simp; omega
theorem map_id_key {es : List EV} : (es.map EV.abs).map (·.1) = es.map (·.id) := by rw [List.map_map]; rfl
theorem insE_perm {es : List EV} {nw : EV} {ch : List (Int × VL)} (hp : (es.map EV.abs).Perm ch) (hk : keysOK ch) (hs : (es.map (·.id)).Pairwise (· < ·)) : ((insE es nw).map EV.abs).Perm (putL ch nw.id (nw.vs.map OV.abs)) := by
  have k1 : keysOK ((insE es nw).map EV.abs) := keys_of_lt (by rw [map_id_key]; exact insE_sorted hs)
  have k2 := putL_ok hk nw.id (nw.vs.map OV.abs)
  rw [List.perm_ext_iff_of_nodup (keys_nodup k1) (keys_nodup k2)]
  rintro ⟨x, w⟩
  rw [← lkL_iff k2, lkL_put hk]
  constructor
  · intro h
    obtain ⟨e, he, h2⟩ := List.mem_map.1 h
    clear h
    rcases insE_mem he with rfl | ⟨he1, he2⟩
    · have hx : x = e.id := (congrArg Prod.fst h2).symm
      have hx2 : w = e.vs.map OV.abs := (congrArg Prod.snd h2).symm
      rw [if_pos hx, hx2]
    · have hm : (x, w) ∈ ch := hp.mem_iff.1 (by rw [← h2]; exact List.mem_map_of_mem he1)
      have hx : x = e.id := (congrArg Prod.fst h2).symm
      rw [if_neg (by rw [hx]; exact he2)]
      exact (lkL_iff hk).2 hm
  · intro h
    by_cases hx : x = nw.id
    · rw [if_pos hx] at h
      cases h
      rw [hx]
      exact List.mem_map_of_mem (f := EV.abs) (insE_mem' (.inl rfl))
    · rw [if_neg hx] at h
      obtain ⟨e, he, h2⟩ := List.mem_map.1 (hp.mem_iff.2 ((lkL_iff hk).1 h))
      rw [← h2]
      refine List.mem_map_of_mem (f := EV.abs) (insE_mem' (.inr ⟨he, ?_⟩))
      have : x = e.id := (congrArg Prod.fst h2).symm
      rw [← this]; exact hx
theorem ROK.put {M : Nat → Option Obj} {st : VS} {a a' : Option Addr} {c c' : Nat} {es : List EV} {is : List IV} (h : ROK M st a c es a' c' is) {M2 : Nat → Option Obj} (hl : leM M M2) {a2 : Option Addr} {c2 : Nat} {nw : EV} (hnw : okE M2 nw)
    (hs : SlM M2 a2 (insE es nw).length 2 ((insE es nw).flatMap EV.cells)) (hc : (insE es nw).length ≤ c2) : ROK M2 { st with ch := putL st.ch nw.id (nw.vs.map OV.abs) } a2 c2 (insE es nw) a' c' is :=
  ⟨insE_perm h.ch h.k1 h.cs, insE_sorted h.cs, h.its, h.ss, fun e he => by
    rcases insE_mem he with rfl | ⟨he, _⟩
    · exact hnw
    · exact (h.oe e he).mono hl, fun i hi => (h.oi i hi).mono hl, hs, h.sI.mono hl, hc, h.cI, putL_ok h.k1 _ _, h.k2, h.oc⟩
theorem sorted_last {vs : VL} (h : sortedV vs) : ∀ v ∈ vs, v.1 ≤ lastS vs := by
  intro v hv
  unfold lastS
  cases hg : vs.getLast? with
  | none => rw [List.getLast?_eq_none_iff] at hg; subst hg; cases hv
  | some l =>
    rw [List.getLast?_eq_some_iff] at hg
    obtain ⟨p, rfl⟩ := hg
    unfold sortedV at h
    rw [List.map_append, List.pairwise_append] at h
    rcases List.mem_append.1 hv with hv | hv
    · have := h.2.2 v.1 (List.mem_map_of_mem hv) l.1 (by simp)
      simp; omega
    · obtain rfl := List.mem_singleton.1 hv
      simp
theorem ROK.chain {M : Nat → Option Obj} {st : VS} {a a' : Option Addr} {c c' : Nat} {es : List EV} {is : List IV} (h : ROK M st a c es a' c' is) {e : EV} (he : e ∈ es) : lkL st.ch e.id = some (e.vs.map OV.abs) := by
  rw [← lkL_perm h.k1 h.ch]
  exact (lkL_iff (keys_perm h.k1 h.ch)).2 (List.mem_map_of_mem (f := EV.abs) he)
theorem ROK.noC {M : Nat → Option Obj} {st : VS} {a a' : Option Addr} {c c' : Nat} {es : List EV} {is : List IV} (h : ROK M st a c es a' c' is) {id : Int} (hn : ∀ e ∈ es, e.id ≠ id) : lkL st.ch id = none := by
  rw [← lkL_perm h.k1 h.ch]
  exact lkL_none fun u hu => by obtain ⟨w, hw, rfl⟩ := List.mem_map.1 hu; exact hn w hw
end Go.Proofs.YtjidejcehmamkaaGreatDoor
namespace Go.Proofs.YtjidejcehmamkaaGreatDoor
open Go Go.SX
attribute [local irreducible] swp opsS thenS blockS retS CallsS St Ent YieldS anyS drawS
set_option maxHeartbeats 4000000 in
theorem RApply_spec (p : Nat) (st : VS) (n : Nat) (txn s : Int) (L : List HP) (hw : WF st n) (hn : n ≤ 10000) (hs0 : 0 ≤ s) :
    CallsS Tryz.prog 94 [ptrV p, .int .u64 txn, .int .u64 s] (refH p st :: L) (fun r L' => r = .int .i64 (applyE st txn s) ∧ L' = refH p (applyS st txn s) :: L) := by
  refine calls_ref fun M a c es a' c' is hok => ?_
  have hil : is.length ≤ n := by rw [hok.len.1]; exact hw.il
  refine CallsS.of_body Tryz.func94 rfl rfl rfl ?_
  refine Q.r ?_; (repeat (intro b1; refine Q.r ?_))
  refine S.cr rfl (Find_spec p st.dim a es c a' is c' st.mark txn M L hok.sI (by omega)) ?_
  rintro _ _ ⟨⟨k0, x, rfl, hx, hxt⟩ | ⟨rfl, hno⟩, rfl⟩
  · have hlk := hok.hasT hx
    rw [hxt] at hlk
    have hmx : x ∈ is := List.mem_of_getElem? hx
    have hox := hok.oi x hmx
    have hwx := hw.io x.abs (hok.its.mem_iff.1 (List.mem_map_of_mem hmx))
    have hxl : x.ops.length ≤ 16 := by simpa using hwx.1
    have hE : applyE st txn s = if s = 0 ∨ 1099511627776 < s ∨ s ≤ x.after then 1 else if (x.ops.any fun o => decide (s ≤ lastS (chV st.ch o.id))) then 7 else if s ≤ st.mark then 12 else 0 := by unfold applyE; rw [hlk]; dsimp only; rw [List.any_map]; rfl
    have hS : applyE st txn s = 0 → applyS st txn s = { st with ch := applyC s st.ch (x.ops.map OV.abs), its := delL st.its txn } := fun h => by unfold applyS; rw [hlk]; dsimp only; rw [if_pos h]
    have hk0 : k0 < is.length := (List.getElem?_eq_some_iff.1 hx).1
    have hrs : RdS (rP p st.dim a es c a' is c' st.mark :: roM M :: L) a' is.length 3 (is.flatMap IV.cells) := hok.sI.rd
    obtain ⟨b, oo, hia, hr⟩ := RdS.elem (g := IV.cells) (fun _ => rfl) hrs hx rfl
    clear hrs
    subst hia
    by_cases h1 : s = 0 ∨ 1099511627776 < s ∨ s ≤ x.after
    · rw [if_pos h1] at hE
      have hS' := applyS_ne (st := st) (txn := txn) (s := s) (by rw [hE]; decide)
      rw [hE, hS']
      by_cases h1a : s = 0
      · refine Q.r ?_; (repeat (intro b1; refine Q.r ?_))
        exact N.r1 (RV.tmp rfl RV.nil) (ref_shut hok) ⟨rfl, rfl⟩
      by_cases h1b : 1099511627776 < s
      · refine Q.r ?_; (repeat (intro b1; refine Q.r ?_))
        exact N.r1 (RV.tmp rfl RV.nil) (ref_shut hok) ⟨rfl, rfl⟩
      · have h1c : s ≤ x.after := by omega
        repeat (first | refine S.y (Y.ldRj rfl (by first | assumption | exact RdC.sub (by assumption)) rfl) ?_ | refine Q.yn ?_ | refine S.stI rfl rfl (by first | omega | (rw [Array.size_setIfInBounds]; omega)) ?_ | (refine GQ.y ?_; refine Q.y ?_) | refine Q.go ?_ | (refine GQ.g ?_; refine Q.gq ?_) | (refine GQ.s ?_; refine Q.st ?_) | (refine GQ.g ?_; refine Q.gd ?_) | refine Q.ct rfl ?_ | refine Q.cf rfl ?_ | (refine GQ.a ?_; refine Q.al (fun b1 => ?_)))
        exact N.r1 (RV.tmp rfl RV.nil) (ref_shut hok) ⟨rfl, rfl⟩
    rw [if_neg h1] at hE
    repeat (first | refine S.y (Y.ldRj rfl (by first | assumption | exact RdC.sub (by assumption)) rfl) ?_ | refine Q.yn ?_ | refine S.stI rfl rfl (by first | omega | (rw [Array.size_setIfInBounds]; omega)) ?_ | (refine GQ.y ?_; refine Q.y ?_) | refine Q.go ?_ | (refine GQ.g ?_; refine Q.gq ?_) | (refine GQ.s ?_; refine Q.st ?_) | (refine GQ.g ?_; refine Q.gd ?_) | refine Q.ct rfl ?_ | refine Q.cf rfl ?_ | (refine GQ.a ?_; refine Q.al (fun b1 => ?_)))
    have hox' := hok.oc x hmx
    refine swp_cutB (σ := Unit) (fun _ => [(0, ptrV p), (1, .int .u64 txn), (2, .int .u64 s), (8, .slice x.a x.ops.length x.c)]) (fun _ => rP p st.dim a es c (some ⟨b, oo, none⟩) is c' st.mark :: roM M :: L) (fun _ => (x.ops.any fun o => decide (s ≤ lastS (chV st.ch o.id))) = false) ?_ ?_
    · refine swp_loop (σ := Nat) (fun k => [(0, ptrV p), (1, .int .u64 txn), (2, .int .u64 s), (8, .slice x.a x.ops.length x.c), (52, .slice x.a x.ops.length x.c), (53, .int .i64 x.ops.length), (54, .int .i64 k)]) (fun _ => rP p st.dim a es c (some ⟨b, oo, none⟩) is c' st.mark :: roM M :: L)
        (fun k => k ≤ x.ops.length ∧ (x.ops.take k).any (fun o => decide (s ≤ lastS (chV st.ch o.id))) = false) (fun k => x.ops.length - k) 0 ⟨rfl, rfl, rfl, rfl, rfl, rfl, rfl, trivial⟩ (Ent.refl _) ⟨by omega, by simp⟩ ?_
      rintro k ⟨hk, hany⟩
      by_cases hlt : k < x.ops.length
      · obtain ⟨o, ho⟩ := mem_get hlt
        have hmo : o ∈ x.ops := List.mem_of_getElem? ho
        have hrx : RdO (rP p st.dim a es c (some ⟨b, oo, none⟩) is c' st.mark :: roM M :: L) x.a x.ops := hox.rd
        obtain ⟨b4, o4, hia4, hr4⟩ := RdS.elem (g := OV.cells) (fun _ => rfl) hrx.1 ho rfl
        clear hrx
        rw [hia4]
        refine Q.r ?_; (repeat (intro b1; refine Q.r ?_))
        refine opsS_ent (L' := rP p st.dim a es c (some ⟨b, oo, none⟩) is c' st.mark :: roM M :: pt b1 (cl o.cells 46) :: L) (by repeat (first | exact Ent.refl _ | exact Ent.nil | refine Ent.pick ?_ | refine Ent.nilS ?_ | refine Ent.nilM ?_ | refine Ent.drop ?_)) ?_
        refine S.cr rfl (RChain_spec p st.dim a es c (some ⟨b, oo, none⟩) is c' st.mark o.id M _ hok.sE (by have := hok.len.2; have := hw.cl; omega)) ?_
        have hgo : ∀ (ea : Option Addr) (ec : Nat) (ovs : List OV), chV st.ch o.id = ovs.map OV.abs → RdS (rP p st.dim a es c (some ⟨b, oo, none⟩) is c' st.mark :: roM M :: pt b1 (cl o.cells 46) :: L) ea ovs.length 2 (ovs.flatMap OV.cells) → ovs.length ≤ n → True := fun _ _ _ _ _ _ => trivial
        rintro _ _ ⟨⟨e, he, heid, rfl⟩ | ⟨rfl, hnoe⟩, rfl⟩
        · have hch := hok.chain he
          rw [heid] at hch
          have hcv : chV st.ch o.id = e.vs.map OV.abs := by unfold chV; rw [hch]; rfl
          have hevl : e.vs.length ≤ n := by
            have := (hw.co _ (lk_memL hch)).2.1
            simpa using this
          refine S.cr rfl (Rlast_spec e.a e.c e.vs _ (hok.oe e he).1.rd (by omega)) ?_
          rintro _ _ ⟨rfl, rfl⟩
          rw [← hcv]
          by_cases h7 : s ≤ lastS (chV st.ch o.id)
          · rw [show (x.ops.any fun o => decide (s ≤ lastS (chV st.ch o.id))) = true from List.any_eq_true.2 ⟨o, hmo, decide_eq_true h7⟩, if_pos rfl] at hE
            have hS' := applyS_ne (st := st) (txn := txn) (s := s) (by rw [hE]; decide)
            rw [hE, hS']
            refine Q.r ?_; (repeat (intro b1; refine Q.r ?_))
            refine N.r1 (RV.tmp rfl RV.nil) ?_ ⟨rfl, rfl⟩
            refine Ent.trans ?_ (ref_shut hok)
            repeat (first | exact Ent.refl _ | exact Ent.nil | refine Ent.pick ?_ | refine Ent.nilS ?_ | refine Ent.nilM ?_ | refine Ent.drop ?_)
          · refine Q.r ?_; (repeat (intro b1; refine Q.r ?_))
            refine ⟨k + 1, ⟨rfl, rfl, rfl, rfl, rfl, rfl, rfl, trivial⟩, by repeat (first | exact Ent.refl _ | exact Ent.nil | refine Ent.pick ?_ | refine Ent.nilS ?_ | refine Ent.nilM ?_ | refine Ent.drop ?_), ⟨by omega, ?_⟩, by omega⟩
            rw [take_snoc ho, List.any_append, hany, List.any_cons, decide_eq_false h7]; rfl
        · have hch := hok.noC hnoe
          have hcv : chV st.ch o.id = [] := by unfold chV; rw [hch]; rfl
          refine S.cr rfl (Rlast_spec none 0 [] _ ⟨rfl, .inl rfl⟩ (by simp)) ?_
          rintro _ _ ⟨rfl, rfl⟩
          rw [show lastS (List.map OV.abs []) = 0 from rfl]
          refine Q.r ?_; (repeat (intro b1; refine Q.r ?_))
          refine ⟨k + 1, ⟨rfl, rfl, rfl, rfl, rfl, rfl, rfl, trivial⟩, by repeat (first | exact Ent.refl _ | exact Ent.nil | refine Ent.pick ?_ | refine Ent.nilS ?_ | refine Ent.nilM ?_ | refine Ent.drop ?_), ⟨by omega, ?_⟩, by omega⟩
          rw [take_snoc ho, List.any_append, hany, List.any_cons, hcv, decide_eq_false (show ¬ s ≤ lastS [] by show ¬ s ≤ 0; omega)]; rfl
      · have hke : k = x.ops.length := by omega
        subst hke
        rw [List.take_length] at hany
        refine Q.r ?_; (repeat (intro b1; refine Q.r ?_))
        exact ⟨(), ⟨rfl, rfl, rfl, rfl, trivial⟩, Ent.refl _, hany⟩
    intro uu hany
    rw [hany] at hE
    simp only [Bool.false_eq_true, if_false] at hE
    by_cases h12 : s ≤ st.mark
    · rw [if_pos h12] at hE
      have hS' := applyS_ne (st := st) (txn := txn) (s := s) (by rw [hE]; decide)
      rw [hE, hS']
      refine Q.r ?_; (repeat (intro b1; refine Q.r ?_))
      exact N.r1 (RV.tmp rfl RV.nil) (ref_shut hok) ⟨rfl, rfl⟩
    rw [if_neg h12] at hE
    rw [hS hE, hE]
    refine Q.r ?_; (repeat (intro b1; refine Q.r ?_))
    refine swp_cutB (σ := Unit) (fun _ => [(0, ptrV p), (1, .int .u64 txn)]) (fun _ => refH p { st with ch := applyC s st.ch (x.ops.map OV.abs) } :: L) (fun _ => True) ?_ ?_
    · refine swp_loop (σ := Nat × RX) (fun u => [(0, ptrV p), (1, .int .u64 txn), (2, .int .u64 s), (72, .slice x.a x.ops.length x.c), (73, .int .i64 x.ops.length), (74, .int .i64 u.1)]) (fun u => rP p st.dim u.2.a u.2.es u.2.c u.2.a' u.2.is u.2.c' st.mark :: roM u.2.M :: L)
        (fun u => u.1 ≤ x.ops.length ∧ leM M u.2.M ∧ u.2.es.length ≤ 16 * n + u.1 ∧ ROK u.2.M { st with ch := applyC s st.ch ((x.ops.take u.1).map OV.abs) } u.2.a u.2.c u.2.es u.2.a' u.2.c' u.2.is) (fun u => x.ops.length - u.1) (0, ⟨a, c, es, some ⟨b, oo, none⟩, c', is, M⟩) ⟨rfl, rfl, rfl, rfl, rfl, rfl, trivial⟩ (Ent.refl _) ⟨by omega, leM.refl M, by have := hok.len.2; have := hw.cl; dsimp only; omega, hok⟩ ?_
      rintro ⟨k, a1, c1, es1, a1', c1', is1, M1⟩ ⟨hk, hl1, hes1, hok1⟩
      dsimp only at hk hl1 hes1 hok1 ⊢
      by_cases hlt : k < x.ops.length
      · obtain ⟨o, ho⟩ := mem_get hlt
        have hmo : o ∈ x.ops := List.mem_of_getElem? ho
        have hrx : RdO (rP p st.dim a1 es1 c1 a1' is1 c1' st.mark :: roM M1 :: L) x.a x.ops := (hox.mono hl1).rd
        obtain ⟨b4, o4, hia4, hr4⟩ := RdS.elem (g := OV.cells) (fun _ => rfl) hrx.1 ho rfl
        clear hrx
        rw [hia4]
        refine Q.r ?_; (repeat (intro b1; refine Q.r ?_))
        refine Q.dgo [true, false, false] [3, 8] [] [0, 1, 2, 4, 5, 6, 7, 3, 8, 9, 10, 11, 12, 13] ?_
        refine Q.rd ?_; (repeat (intro b1; refine Q.rd ?_))
        refine D.e rfl rfl rfl ?_
        refine S.cr rfl (RChain_spec p st.dim a1 es1 c1 a1' is1 c1' st.mark o.id M1 L hok1.sE (by omega)) ?_
        rintro w _ ⟨hv, rfl⟩
        have hx : ∃ ea ec ovs, w = .slice ea (List.length ovs) ec ∧ SlM M1 ea ovs.length 2 (ovs.flatMap OV.cells) ∧ okR M1 ovs ∧ ovs.map OV.abs = chV (applyC s st.ch ((x.ops.take k).map OV.abs)) o.id := by
          rcases hv with ⟨e, he, heid, rfl⟩ | ⟨rfl, hnoe⟩
          · have hch := hok1.chain he
            rw [heid] at hch
            exact ⟨e.a, e.c, e.vs, rfl, (hok1.oe e he).1, (hok1.oe e he).2, by unfold chV; dsimp only at hch; rw [hch]; rfl⟩
          · have hch := hok1.noC hnoe
            exact ⟨none, 0, [], rfl, ⟨rfl, .inl rfl⟩, fun o ho => by (cases ho), by unfold chV; dsimp only at hch; rw [hch]; rfl⟩
        clear hv
        obtain ⟨ea, ec, ovs, rfl, hSl, hoR, hov⟩ := hx
        have hcl : chV (applyC s st.ch ((x.ops.take k).map OV.abs)) o.id = chV st.ch o.id := by
          unfold chV
          rw [lk_apply hok.k1]
          intro hm
          obtain ⟨i1, hi1, hi2⟩ := List.mem_iff_getElem.1 hm
          simp only [List.length_map, List.length_take] at hi1
          have hnd := hwx.2.1
          have h2 : (x.abs.2.2.map (·.1))[k]? = some o.id := by simp [ho]
          have h1' : (x.abs.2.2.map (·.1))[i1]? = some o.id := by
            have : ((x.ops.take k).map OV.abs).map (·.1) = (x.abs.2.2.map (·.1)).take k := by simp [List.map_take]
            rw [List.getElem_of_eq this] at hi2
            rw [List.getElem_take] at hi2
            rw [← hi2]; exact List.getElem?_eq_getElem _
          have e := (List.getElem?_inj (by simp; omega) hnd).1 (h1'.trans h2.symm)
          omega
        have hvs : ovs.map OV.abs = chV st.ch o.id := hov.trans hcl
        have hlst : ovs.length ≤ n ∧ sortedV (ovs.map OV.abs) := by
          have hl : ovs.length = (chV st.ch o.id).length := by rw [← hvs]; simp
          rw [hl, hvs]
          unfold chV
          cases hz : lkL st.ch o.id with
          | none => exact ⟨Nat.zero_le _, List.Pairwise.nil⟩
          | some w => exact ⟨(hw.co _ (lk_memL hz)).2.1, (hw.co _ (lk_memL hz)).1⟩
        have hwo := hwx.2.2 o.abs (List.mem_map_of_mem (f := OV.abs) hmo)
        have hlo : o.vec.length ≤ 8 := hwo.1
        have hlast : ¬ s ≤ lastS (chV st.ch o.id) := fun hh => List.any_eq_false.1 hany o hmo (decide_eq_true hh)
        refine Q.r ?_; (repeat (intro b1; refine Q.r ?_))
        refine Q.rd ?_; (repeat (intro b1; refine Q.rd ?_))
        refine D.e rfl rfl rfl ?_
        have hs1 : 1 ≤ s := by omega
        have hs2 : s ≤ 1099511627776 := by omega
        have hl10 : o.vec.length ≤ 10 := by omega
        have hovn : ovs.length ≤ 1000000 := by omega
        refine S.cr rfl (RPut_spec ea ec ovs ⟨s, o.a, o.c, o.vec⟩ _ hSl.rd ((hox.mono hl1).2 o hmo).rd (hox' o hmo) hl10 hovn hs1 hs2 (fun h => hwo.2 h) (fun u hu => ?_)) ?_
        · have h5 := sorted_last hlst.2 u.abs (List.mem_map_of_mem hu)
          rw [hvs] at h5
          have h6 : u.id ≤ lastS (chV st.ch o.id) := h5
          show u.id < s
          omega
        rintro _ _ ⟨a2, c2, a4, c4, rfl, rfl⟩
        refine Q.r ?_; (repeat (intro b1; refine Q.r ?_))
        refine Q.rd ?_; (repeat (intro b1; refine Q.rd ?_))
        refine N.tn ?_
        refine swp_abs a4 (fun M2 hl2 hsv => ?_)
        refine swp_abs a2 (fun M3 hl3 hs3 => ?_)
        obtain ⟨nw, hnw⟩ : ∃ nw : EV, nw = ⟨o.id, a2, c2, ovs ++ [⟨s, a4, c4, o.vec⟩]⟩ := ⟨_, rfl⟩
        have hnl : nw.vs.length = ovs.length + 1 := by rw [hnw]; simp
        have hSet := fun A => RSet_spec p st.dim a1 es1 c1 a1' is1 c1' st.mark nw M3 A (hok1.sE.mono (hl2.trans hl3)) (by omega) hok1.cs (by omega)
        have hn1 : nw.id = o.id := by rw [hnw]
        have hn2 : nw.a = a2 := by rw [hnw]
        have hn3 : nw.c = c2 := by rw [hnw]
        rw [hnl, hn1, hn2, hn3] at hSet
        refine Q.r ?_; (repeat (intro b1; refine Q.r ?_))
        refine opsS_ent (L' := rP p st.dim a1 es1 c1 a1' is1 c1' st.mark :: roM M3 :: pt b1 (cl o.cells 46) :: L) (by repeat (first | exact Ent.refl _ | exact Ent.nil | refine Ent.pick ?_ | refine Ent.nilS ?_ | refine Ent.nilM ?_ | refine Ent.drop ?_)) ?_
        refine S.cr rfl (hSet _) ?_
        rintro _ _ ⟨a6, c6, rfl, rfl⟩
        refine opsS_cap a6 fun hc6 => opsS_abs a6 fun M4 hl4 hs4 => ?_
        have hput := hok1.put (hl2.trans (hl3.trans hl4)) (nw := nw) (by rw [hnw]; exact ⟨by dsimp only; rw [len_snoc, flat_snoc]; exact hs3.mono hl4, fun u hu => by
          rcases List.mem_append.1 hu with hu | hu
          · exact (hoR u hu).mono (hl2.trans (hl3.trans hl4))
          · obtain rfl := List.mem_singleton.1 hu
            exact hsv.mono (hl3.trans hl4)⟩) hs4 hc6
        have hch : putL (applyC s st.ch ((x.ops.take k).map OV.abs)) nw.id (nw.vs.map OV.abs) = applyC s st.ch ((x.ops.take (k + 1)).map OV.abs) := by
          rw [take_snoc ho, List.map_append, List.map_cons, List.map_nil, applyC_snoc]
          unfold putC
          rw [hn1, hnw]
          dsimp only
          rw [List.map_append, hov]; rfl
        dsimp only at hput
        rw [hch] at hput
        have hil2 : (insE es1 nw).length ≤ es1.length + 1 := by
          unfold insE
          rw [List.length_append, List.length_cons]
          have e1 := List.length_filter_le (fun e : EV => decide (e.id < nw.id)) es1
          have e2 : (es1.filter fun e => decide (e.id < nw.id)).length + (es1.filter fun e => !decide (e.id < nw.id)).length = es1.length := by
            have := (List.filter_append_perm (fun e : EV => decide (e.id < nw.id)) es1).length_eq
            simpa using this
          have e3 : (es1.filter fun e => decide (nw.id < e.id)).length ≤ (es1.filter fun e => !decide (e.id < nw.id)).length := by
            rw [← List.countP_eq_length_filter, ← List.countP_eq_length_filter]
            exact List.countP_mono_left fun u hu h => by simp at h ⊢; omega
          omega
        refine Q.r ?_; (repeat (intro b1; refine Q.r ?_))
        refine ⟨(k + 1, ⟨a6, c6, insE es1 nw, a1', c1', is1, M4⟩), ⟨rfl, rfl, rfl, rfl, rfl, rfl, trivial⟩, ?_, ⟨by dsimp only; omega, hl1.trans (hl2.trans (hl3.trans hl4)), by dsimp only; omega, hput⟩, by dsimp only; omega⟩
        repeat (first | exact Ent.refl _ | exact Ent.nil | refine Ent.pick ?_ | refine Ent.nilS ?_ | refine Ent.nilM ?_ | refine Ent.drop ?_)
      · have hke : k = x.ops.length := by omega
        subst hke
        rw [List.take_length] at hok1
        refine Q.r ?_; (repeat (intro b1; refine Q.r ?_))
        exact ⟨(), ⟨rfl, rfl, trivial⟩, ref_shut hok1, trivial⟩
    intro uu2 _
    refine Q.r ?_; (repeat (intro b1; refine Q.r ?_))
    refine S.cr rfl (RFree_spec p _ txn _ (by have := hw.il; dsimp only; omega)) ?_
    rintro _ _ ⟨rfl, rfl⟩
    dsimp only
    rw [hlk]
    refine Q.r ?_; (repeat (intro b1; refine Q.r ?_))
    exact N.r1 (RV.tmp rfl RV.nil) (Ent.refl _) ⟨rfl, rfl⟩
  · have hlk := hok.noT hno
    have hE : applyE st txn s = if s = 0 ∨ 1099511627776 < s then 1 else 6 := by unfold applyE; rw [hlk]
    have hS : applyS st txn s = st := by unfold applyS; rw [hlk]
    rw [hE, hS]
    by_cases h1 : s = 0 ∨ 1099511627776 < s
    · rw [if_pos h1]
      by_cases h1a : s = 0
      · refine Q.r ?_; (repeat (intro b1; refine Q.r ?_))
        exact N.r1 (RV.tmp rfl RV.nil) (ref_shut hok) ⟨rfl, rfl⟩
      · refine Q.r ?_; (repeat (intro b1; refine Q.r ?_))
        exact N.r1 (RV.tmp rfl RV.nil) (ref_shut hok) ⟨rfl, rfl⟩
    · rw [if_neg h1]
      refine Q.r ?_; (repeat (intro b1; refine Q.r ?_))
      exact N.r1 (RV.tmp rfl RV.nil) (ref_shut hok) ⟨rfl, rfl⟩
end Go.Proofs.YtjidejcehmamkaaGreatDoor
namespace Go.Proofs.YtjidejcehmamkaaGreatDoor
open Go Go.SX
attribute [local irreducible] swp opsS thenS blockS retS CallsS St Ent YieldS anyS drawS
theorem CloneV_spec (a : Option Addr) (c : Nat) (xs : List OV) (A : List HP) (h : RdS A a xs.length 2 (xs.flatMap OV.cells)) (hn : xs.length ≤ 1000000) :
    CallsS Tryz.prog 161 [.slice a xs.length c] A (fun v L' => ∃ a' c', v = .slice a' xs.length c' ∧ L' = slO 130 2 a' xs.length c' (xs.flatMap OV.cells) :: A) := by
  refine CallsS.of_body Tryz.func161 rfl rfl rfl ?_
  cases a with
  | none =>
    have hx : xs = [] := by
      rcases h.2 with h0 | ⟨_, _, h0, _⟩
      · exact List.eq_nil_of_length_eq_zero h0
      · cases h0
    subst hx
    refine Q.r ?_; (repeat (intro b1; refine Q.r ?_))
    exact N.r1 (RV.tmp rfl RV.nil) slO_nil ⟨none, 0, rfl, rfl⟩
  | some ad =>
    refine Q.r ?_; (repeat (intro b1; refine Q.r ?_))
    refine opsS_ent (slO_fold (sz := 2) (m := 0) rfl) ?_
    refine S.app0 rfl rfl rfl (SrcS.rd h.sub (OV_one _)) (by rfl) (by omega) (by omega) (fun a5 c5 => ?_)
    refine Q.r ?_; (repeat (intro b1; refine Q.r ?_))
    exact N.r1 (RV.tmp rfl RV.nil) (Ent.refl _) ⟨a5, c5, rfl, rfl⟩
theorem flat_len2 : ∀ (l : List OV), (l.flatMap OV.cells).length = l.length * 2
  | [] => rfl
  | o :: l => by rw [List.flatMap_cons, List.length_append, flat_len2 l, List.length_cons]; simp; omega
def cutN (vs : VL) (s : Int) : Nat := if aftN vs s = 0 then 0 else if 0 < (((vs[aftN vs s - 1]?).map (·.2)).getD []).length then aftN vs s - 1 else aftN vs s
theorem cut_le (vs : VL) (s : Int) : cutN vs s ≤ vs.length := by
  unfold cutN
  have := aft_le vs s
  split
  · omega
  · split <;> omega
set_option maxHeartbeats 2000000 in
theorem ChSweep_spec (M : Nat → Option Obj) (p : Nat) (vs : VL) (s : Int) (L : List HP) (hs : sortedV vs) (hn : vs.length ≤ 1000000) :
    CallsS Tryz.prog 118 [.pointer (some ⟨p, 0, none⟩), .int .u64 s] (chainH M p vs :: L)
      (fun v L' => ∃ a c, v = .slice a (cutN vs s) c ∧ L' = slO 30 1 a (cutN vs s) c (((vs.take (cutN vs s)).map (·.1)).map U64) :: chainH M p (vs.drop (cutN vs s)) :: L) := by
  refine calls_chain fun a c ovs h1 h2 => ?_
  subst h1
  rw [List.length_map] at hn
  refine CallsS.addr a fun ha => ?_
  refine CallsS.of_body Tryz.func118 rfl rfl rfl ?_
  refine Q.r ?_; (repeat (intro b1; refine Q.r ?_))
  refine S.cr rfl (after_spec' p a c ovs s L hs hn) ?_
  rintro _ _ ⟨rfl, rfl⟩
  have hle := aft_le (ovs.map OV.abs) s
  rw [List.length_map] at hle
  obtain ⟨n, hnn⟩ : ∃ n, n = aftN (ovs.map OV.abs) s := ⟨_, rfl⟩
  obtain ⟨m, hm⟩ : ∃ m, m = cutN (ovs.map OV.abs) s := ⟨_, rfl⟩
  have hmle : m ≤ ovs.length := by rw [hm]; have := cut_le (ovs.map OV.abs) s; simpa using this
  rw [← hnn] at hle ⊢
  rw [← hm]
  unfold cutN at hm
  rw [← hnn] at hm
  repeat (first | (refine GQ.y ?_; refine Q.y ?_) | refine Q.go ?_ | (refine GQ.g ?_; refine Q.gq ?_) | (refine GQ.s ?_; refine Q.st ?_) | (refine GQ.a ?_; refine Q.al (fun b1 => ?_)))
  refine opsS_cutT (σ := Bool) (fun t => [(0, .pointer (some ⟨p, 0, none⟩)), (5, .int .i64 n), (28, .bool t)]) (fun _ => pt p (cl [.slice a ovs.length c] 262) :: slO 130 2 a ovs.length c (ovs.flatMap OV.cells) :: L) (fun t => (m = if t = true then n - 1 else n) ∧ (t = true → 0 < n)) ?_ ?_
  · by_cases h0 : n = 0
    · rw [if_pos h0] at hm
      refine Q.r ?_; (repeat (intro b1; refine Q.r ?_))
      exact ⟨false, ⟨rfl, rfl, by rw [decide_eq_false (show ¬ (0 : Int) < (n : Int) by omega)]; rfl, trivial⟩, Ent.refl _, by rw [hm, h0]; rfl, fun h => by cases h⟩
    · rw [if_neg h0] at hm
      obtain ⟨o, ho⟩ := mem_get (l := ovs) (k := n - 1) (by omega)
      have hat : (((ovs.map OV.abs)[n - 1]?).map (·.2)).getD [] = o.vec := by rw [List.getElem?_map, ho]; rfl
      rw [hat] at hm
      rcases ha with ha | ⟨b, rfl⟩
      · omega
      have hr := chain_rd (p := p) (b := b) (c := c) (L := L) ho
      repeat (first | refine S.y (Y.ldRj rfl (by first | assumption | exact RdC.sub (by assumption)) rfl) ?_ | refine Q.yn ?_ | refine S.stI rfl rfl (by first | omega | (rw [Array.size_setIfInBounds]; omega)) ?_ | (refine GQ.y ?_; refine Q.y ?_) | refine Q.go ?_ | (refine GQ.g ?_; refine Q.gq ?_) | (refine GQ.s ?_; refine Q.st ?_) | (refine GQ.g ?_; refine Q.gd ?_) | refine Q.ct rfl ?_ | refine Q.cf rfl ?_ | (refine GQ.a ?_; refine Q.al (fun b1 => ?_)))
      by_cases hz : 0 < o.vec.length
      · rw [if_pos hz] at hm
        exact ⟨true, ⟨rfl, rfl, by rw [decide_eq_true (show (0 : Int) < (o.vec.length : Int) by omega)]; rfl, trivial⟩, Ent.refl _, by rw [if_pos rfl]; exact hm, fun _ => by omega⟩
      · rw [if_neg hz] at hm
        exact ⟨false, ⟨rfl, rfl, by rw [decide_eq_false (show ¬ (0 : Int) < (o.vec.length : Int) by omega)]; rfl, trivial⟩, Ent.refl _, by rw [if_neg Bool.false_ne_true]; exact hm, fun h => by cases h⟩
  clear hm
  rintro t ⟨hm, ht⟩
  refine swp_cutT (σ := Unit) (fun _ => [(0, .pointer (some ⟨p, 0, none⟩)), (5, .int .i64 m)]) (fun _ => pt p (cl [.slice a ovs.length c] 262) :: slO 130 2 a ovs.length c (ovs.flatMap OV.cells) :: L) (fun _ => True) ?_ ?_
  · cases t with
    | true =>
      rw [if_pos rfl] at hm
      have h0 := ht rfl
      · refine Q.rn ?_; (repeat (intro b1; refine Q.rn ?_))
        exact ⟨(), ⟨rfl, by rw [hm]; rfl, trivial⟩, Ent.refl _, trivial⟩
    | false =>
      rw [if_neg Bool.false_ne_true] at hm
      refine Q.r ?_; (repeat (intro b1; refine Q.r ?_))
      exact ⟨(), ⟨rfl, by rw [hm]; rfl, trivial⟩, Ent.refl _, trivial⟩
  intro _ _
  refine Q.r ?_; (repeat (intro b1; refine Q.r ?_))
  refine opsS_cap a fun hcap => ?_
  have hmc : m ≤ c := Nat.le_trans hmle hcap
  clear hm ht hs
  refine S.y (Y.slT (h := m) rfl rfl rfl hmc) ?_
  refine Q.r ?_; (repeat (intro b1; refine Q.r ?_))
  refine swp_cutB (σ := Option Addr × Nat) (fun u => [(0, .pointer (some ⟨p, 0, none⟩)), (5, .int .i64 m), (6, .slice u.1 m u.2)]) (fun u => slO 30 1 u.1 m u.2 (((ovs.take m).map (·.id)).map U64) :: pt p (cl [.slice a ovs.length c] 262) :: slO 130 2 a ovs.length c (ovs.flatMap OV.cells) :: L) (fun _ => True) ?_ ?_
  · refine swp_loop (σ := Nat × Option Addr × Nat) (fun u => [(0, .pointer (some ⟨p, 0, none⟩)), (5, .int .i64 m), (36, .slice a m c), (37, .int .i64 m), (6, .slice u.2.1 u.1 u.2.2), (38, .int .i64 u.1)]) (fun u => slO 30 1 u.2.1 u.1 u.2.2 (((ovs.take u.1).map (·.id)).map U64) :: pt p (cl [.slice a ovs.length c] 262) :: slO 130 2 a ovs.length c (ovs.flatMap OV.cells) :: L)
      (fun u => u.1 ≤ m) (fun u => m - u.1) (0, none, 0) ⟨rfl, rfl, rfl, rfl, rfl, rfl, trivial⟩ slO_nil (by dsimp only; omega) ?_
    rintro ⟨k, a3, c3⟩ hk
    dsimp only at hk ⊢
    by_cases hlt : k < m
    · obtain ⟨o, ho⟩ := mem_get (l := ovs) (k := k) (by omega)
      rcases ha with ha | ⟨b, rfl⟩
      · omega
      have hr : RdC (slO 30 1 a3 k c3 (((ovs.take k).map (·.id)).map U64) :: pt p (cl [.slice (some ⟨b, 0, none⟩) ovs.length c] 262) :: slO 130 2 (some ⟨b, 0, none⟩) ovs.length c (ovs.flatMap OV.cells) :: L) b (0 + k * 2) (OV.cells o) := RdC.elem (g := OV.cells) (fun _ => rfl) RdC.ofS ho
      refine Q.r ?_; (repeat (intro b1; refine Q.r ?_))
      refine S.app rfl rfl (SrcS.sl RdC.row (by rfl) (by rfl)) (by rfl) (by omega) (by omega) (fun a4 c4 => ?_)
      refine Q.r ?_; (repeat (intro b1; refine Q.r ?_))
      refine ⟨(k + 1, a4, c4), ⟨rfl, rfl, rfl, rfl, rfl, rfl, trivial⟩, ?_, by dsimp only; omega, by dsimp only; omega⟩
      dsimp only
      rw [take_snoc ho, List.map_append, List.map_append]
      repeat (first | exact Ent.refl _ | exact Ent.nil | refine Ent.pick ?_ | refine Ent.nilS ?_ | refine Ent.nilM ?_ | refine Ent.drop ?_)
    · have hke : k = m := by omega
      subst hke
      refine Q.r ?_; (repeat (intro b1; refine Q.r ?_))
      exact ⟨(a3, c3), ⟨rfl, rfl, rfl, trivial⟩, Ent.refl _, trivial⟩
  rintro ⟨a3, c3⟩ -
  dsimp only
  refine Q.r ?_; (repeat (intro b1; refine Q.r ?_))
  refine S.y (Y.slFa (l := m) rfl rfl rfl hmle (by rcases ha with ha | ⟨b, rfl⟩; exact .inl ha; exact .inr ⟨b, 0, rfl⟩)) ?_
  have hrv : ∀ L', L' = slO 30 1 a3 m c3 (((ovs.take m).map (·.id)).map U64) :: pt p (cl [.slice a ovs.length c] 262) :: slO 130 2 a ovs.length c (ovs.flatMap OV.cells) :: L → RdS L' (subA a c m 2) (ovs.drop m).length 2 ((ovs.drop m).flatMap OV.cells) := by
    rintro L' rfl
    have h0 : RdS (slO 30 1 a3 m c3 (((ovs.take m).map (·.id)).map U64) :: pt p (cl [.slice a ovs.length c] 262) :: slO 130 2 a ovs.length c (ovs.flatMap OV.cells) :: L) a ovs.length 2 (ovs.flatMap OV.cells) := RdS.ofS (flat_len2 _) ha
    have h1 := RdS.fromA (l := m) h0 hmle hcap
    rw [flat_drop (sz := 2) (fun _ => rfl)] at h1
    rw [List.length_drop]; exact h1
  have hCl := CloneV_spec (subA a c m 2) (c - m) (ovs.drop m) _ (hrv _ rfl) (by rw [List.length_drop]; omega)
  rw [List.length_drop] at hCl
  refine S.cr rfl hCl ?_
  rintro _ _ ⟨a5, c5, rfl, rfl⟩
  refine Q.r ?_; (repeat (intro b1; refine Q.r ?_))
  have e : (((ovs.map OV.abs).take m).map (·.1)).map U64 = ((ovs.take m).map (·.id)).map U64 := congrArg (List.map U64) (by rw [← List.map_take, List.map_map]; rfl)
  rw [e]
  refine N.r1 (RV.tmp rfl RV.nil) ?_ ⟨a3, c3, rfl, rfl⟩
  have := chain_shut (p := p) (a := a5) (c := c5) (L := L) (M := M) (ovs := ovs.drop m) (fun o ho => h2 o (List.mem_of_mem_drop ho))
  rw [List.length_drop, List.map_drop] at this
  refine Ent.pick (Ent.trans ?_ this)
  repeat (first | exact Ent.refl _ | exact Ent.nil | refine Ent.pick ?_ | refine Ent.nilS ?_ | refine Ent.nilM ?_ | refine Ent.drop ?_)
end Go.Proofs.YtjidejcehmamkaaGreatDoor
namespace Go.Proofs.YtjidejcehmamkaaGreatDoor
open Go Go.SX
attribute [local irreducible] swp opsS thenS blockS retS CallsS St Ent YieldS anyS drawS
abbrev GL := List (Int × Int)
def sw1 (s : Int) (u : List (Int × VL) × GL) (id : Int) : List (Int × VL) × GL :=
  (if ((chV u.1 id).drop (cutN (chV u.1 id) s)).length = 0 then delL u.1 id else putL u.1 id ((chV u.1 id).drop (cutN (chV u.1 id) s)), u.2 ++ ((chV u.1 id).take (cutN (chV u.1 id) s)).map fun v => (id, v.1))
def swF (s : Int) (ks : List Int) (ch : List (Int × VL)) : List (Int × VL) × GL := ks.foldl (sw1 s) (ch, [])
def swIds (ch : List (Int × VL)) : List Int := sortL (ch.map (·.1))
def sweepS (st : VS) (s : Int) : VS := if min s 1099511627776 ≤ st.mark then st else { st with mark := min s 1099511627776, ch := (swF (min s 1099511627776) (swIds st.ch) st.ch).1 }
def sweepG (st : VS) (s : Int) : GL := if min s 1099511627776 ≤ st.mark then [] else (swF (min s 1099511627776) (swIds st.ch) st.ch).2
theorem lkL_del {κ α : Type} [DecidableEq κ] {m : List (κ × α)} (x y : κ) (h : y ≠ x) : lkL (delL m x) y = lkL m y := by
  unfold lkL delL
  rw [List.find?_filter]
  congr 2
  funext u
  by_cases hu : u.1 = y
  · have : u.1 ≠ x := fun e => h (by rw [← hu, e])
    simp [hu, h]
  · simp [hu]
theorem sw1_ok {s : Int} {u : List (Int × VL) × GL} (h : keysOK u.1) (id : Int) : keysOK (sw1 s u id).1 := by
  unfold sw1
  dsimp only
  split
  · exact delL_ok h id
  · exact putL_ok h _ _
theorem sw1_lk {s : Int} {u : List (Int × VL) × GL} (h : keysOK u.1) {id x : Int} (hx : x ≠ id) : lkL (sw1 s u id).1 x = lkL u.1 x := by
  unfold sw1
  dsimp only
  split
  · exact lkL_del _ _ hx
  · rw [lkL_put h, if_neg hx]
theorem swF_ok {s : Int} : ∀ {ks : List Int} {u : List (Int × VL) × GL}, keysOK u.1 → keysOK (ks.foldl (sw1 s) u).1
  | [], _, h => h
  | k :: ks, u, h => swF_ok (ks := ks) (u := sw1 s u k) (sw1_ok h k)
theorem swF_lk {s : Int} {x : Int} : ∀ {ks : List Int} {u : List (Int × VL) × GL}, keysOK u.1 → x ∉ ks → lkL (ks.foldl (sw1 s) u).1 x = lkL u.1 x
  | [], _, _, _ => rfl
  | k :: ks, u, h, hx => by
    simp only [List.mem_cons, not_or] at hx
    show lkL (ks.foldl (sw1 s) (sw1 s u k)).1 x = _
    rw [swF_lk (ks := ks) (sw1_ok h k) hx.2, sw1_lk h hx.1]
theorem swIds_nodup {ch : List (Int × VL)} (h : keysOK ch) : (swIds ch).Nodup := (sortL_perm _).nodup_iff.2 h
theorem swIds_mem {ch : List (Int × VL)} {x : Int} (h : x ∈ swIds ch) : ∃ vs, (x, vs) ∈ ch := by
  obtain ⟨u, hu, e⟩ := List.mem_map.1 ((sortL_perm _).mem_iff.1 h)
  exact ⟨u.2, by rw [← e]; exact hu⟩
theorem swF_at {s : Int} {ch : List (Int × VL)} (h : keysOK ch) {k : Nat} {x : Int} (hx : (swIds ch)[k]? = some x) : ∃ vs, lkL ch x = some vs ∧ lkL (((swIds ch).take k).foldl (sw1 s) (ch, [])).1 x = some vs := by
  obtain ⟨vs, hm⟩ := swIds_mem (List.mem_of_getElem? hx)
  have h1 := (lkL_iff h).2 hm
  refine ⟨vs, h1, ?_⟩
  rw [swF_lk (u := (ch, [])) h (fun hk => ?_)]
  · exact h1
  · obtain ⟨j, hj, e⟩ := List.mem_iff_getElem.1 hk
    rw [List.length_take] at hj
    rw [List.getElem_take] at e
    have h2 : (swIds ch)[j]? = some x := by rw [← e]; exact List.getElem?_eq_getElem _
    have := (List.getElem?_inj (by omega) (swIds_nodup h)).1 (h2.trans hx.symm)
    omega
theorem foldl_take {α β : Type} (f : β → α → β) (b : β) {l : List α} {k : Nat} {x : α} (h : l[k]? = some x) : (l.take (k + 1)).foldl f b = f ((l.take k).foldl f b) x := by
  rw [take_snoc h, List.foldl_append]; rfl
abbrev gcells (x : Int × Int) : List Value := [.int .u64 x.1, .int .u64 x.2]
theorem AtC.del {ch : List (Int × VL)} {id : Int} {p q : List CR} {b : Nat} {vs : VL} (h : AtC ch id p q b vs) (e : ch = (p ++ (id, b, vs) :: q).map fun c => (c.1, c.2.2)) : (p ++ q).map (fun c => (c.1, c.2.2)) = delL ch id := by
  rw [e]
  unfold delL
  rw [List.map_append, List.map_append, List.map_cons, List.filter_append, List.filter_cons]
  simp only [decide_true, Bool.not_true, Bool.false_eq_true, if_false]
  rw [List.filter_eq_self.2, List.filter_eq_self.2]
  · intro u hu
    obtain ⟨w, hw, rfl⟩ := List.mem_map.1 hu
    have := h.hq w hw
    simpa using this
  · intro u hu
    obtain ⟨w, hw, rfl⟩ := List.mem_map.1 hu
    have := h.hp w hw
    simpa using this
theorem delP {p q : List CR} {id : Int} {b : Nat} {vs : VL} (hp : ∀ u ∈ p, u.1 ≠ id) (hq : ∀ u ∈ q, u.1 ≠ id) : delL ((p ++ (id, b, vs) :: q).map fun c => (c.1, c.2.1)) id = (p ++ q).map fun c => (c.1, c.2.1) := by
  unfold delL
  rw [List.map_append, List.map_append, List.map_cons, List.filter_append, List.filter_cons]
  simp only [decide_true, Bool.not_true, Bool.false_eq_true, if_false]
  rw [List.filter_eq_self.2, List.filter_eq_self.2]
  · intro u hu
    obtain ⟨w, hw, rfl⟩ := List.mem_map.1 hu
    have := hq w hw
    simpa using this
  · intro u hu
    obtain ⟨w, hw, rfl⟩ := List.mem_map.1 hu
    have := hp w hw
    simpa using this
set_option maxHeartbeats 4000000 in
theorem Sweep_spec (v : Nat) (st : VS) (n : Nat) (s : Int) (L : List HP) (hw : WF st n) (hn : n ≤ 10000) :
    CallsS Tryz.prog 47 [ptrV v, .int .u64 s] (vaultH v st :: L) (fun r L' => ∃ a c, r = .slice a (sweepG st s).length c ∧ (sweepG st s).length ≤ 1600000000 ∧ L' = slO 222 2 a (sweepG st s).length c ((sweepG st s).flatMap gcells) :: vaultH v (sweepS st s) :: L) := by
  unfold sweepG sweepS
  refine calls_vault fun mc mi M cs is hok => ?_
  obtain ⟨m, hm⟩ : ∃ m, m = min s 1099511627776 := ⟨_, rfl⟩
  rw [← hm]
  have hcl : cs.length = st.ch.length := by rw [← hok.ch]; simp
  have hcn : cs.length ≤ 16 * n := by rw [hcl]; exact hw.cl
  refine CallsS.of_body Tryz.func47 rfl rfl rfl ?_
  by_cases h1 : m ≤ st.mark
  · rw [if_pos h1, if_pos h1]
    repeat (first | (refine GQ.y ?_; refine Q.y ?_) | refine Q.go ?_ | (refine GQ.g ?_; refine Q.gq ?_) | (refine GQ.s ?_; refine Q.st ?_) | (refine GQ.a ?_; refine Q.al (fun b1 => ?_)))
    rw [← hm]
    refine Q.r ?_; (repeat (intro b1; refine Q.r ?_))
    refine N.r1 (RV.tmp rfl RV.nil) ?_ ⟨none, 0, rfl, by simp, rfl⟩
    refine Ent.trans ?_ slO_nil
    exact vault_shut hok
  rw [if_neg h1, if_neg h1]
  repeat (first | (refine GQ.y ?_; refine Q.y ?_) | refine Q.go ?_ | (refine GQ.g ?_; refine Q.gq ?_) | (refine GQ.s ?_; refine Q.st ?_) | (refine GQ.a ?_; refine Q.al (fun b1 => ?_)))
  rw [← hm]
  refine Q.r ?_; (repeat (intro b1; refine Q.r ?_))
  refine S.cr rfl (Ids_spec v mc mi st.dim m cs _ (by omega)) ?_
  rintro _ _ ⟨a, c, rfl, rfl⟩
  refine Q.r ?_; (repeat (intro b1; refine Q.r ?_))
  obtain ⟨ks, hks⟩ : ∃ ks, ks = swIds st.ch := ⟨_, rfl⟩
  have hks' : sortL (cs.map (·.1)) = ks := by rw [hks, ← hok.ch]; unfold swIds; rw [List.map_map]; rfl
  have hkl : cs.length = ks.length := by rw [← hks', sortL_len, List.length_map]
  rw [hks', hkl]
  rw [hkl] at hcn
  refine swp_addr a (fun ha => ?_)
  have hkeys : keysOK (cs.map fun c => (c.1, c.2.2)) := by rw [hok.ch]; exact hok.k1
  refine swp_cutB (σ := Option Addr × Nat × List CR) (fun u => [(5, .slice u.1 (swF m ks st.ch).2.length u.2.1)]) (fun u => slO 222 2 u.1 (swF m ks st.ch).2.length u.2.1 ((swF m ks st.ch).2.flatMap gcells) :: vP v mc mi st.dim m :: vC mc u.2.2 :: vI mi is :: chsH M u.2.2 :: roM M :: L) (fun u => u.2.2.map (fun c => (c.1, c.2.2)) = (swF m ks st.ch).1 ∧ (swF m ks st.ch).2.length ≤ 1600000000) ?_ ?_
  · refine swp_loop (σ := Nat × Option Addr × Nat × GL × List CR) (fun u => [(0, ptrV v), (1, .int .u64 m), (27, .slice a ks.length c), (28, .int .i64 ks.length), (5, .slice u.2.1 u.2.2.2.1.length u.2.2.1), (29, .int .i64 u.1)])
      (fun u => slO 30 1 a ks.length c (ks.map U64) :: slO 222 2 u.2.1 u.2.2.2.1.length u.2.2.1 (u.2.2.2.1.flatMap gcells) :: vP v mc mi st.dim m :: vC mc u.2.2.2.2 :: vI mi is :: chsH M u.2.2.2.2 :: roM M :: L)
      (fun u => u.1 ≤ ks.length ∧ u.2.2.2.1.length ≤ u.1 * 10000 ∧ (u.2.2.2.2.map (fun c => (c.1, c.2.2)), u.2.2.2.1) = (ks.take u.1).foldl (sw1 m) (st.ch, [])) (fun u => ks.length - u.1) (0, none, 0, [], cs) ⟨rfl, rfl, rfl, rfl, rfl, rfl, trivial⟩ ?_ ⟨by omega, by simp, by dsimp only; rw [hok.ch]; rfl⟩ ?_
    · refine Ent.cons (Ent.trans ?_ slO_nil)
      repeat (first | exact Ent.refl _ | exact Ent.nil | refine Ent.pick ?_ | refine Ent.nilS ?_ | refine Ent.nilM ?_ | refine Ent.drop ?_)
    rintro ⟨k, a3, c3, g, cs1⟩ ⟨hk, hgl, hfold⟩
    dsimp only at hk hgl hfold ⊢
    by_cases hlt : k < ks.length
    · obtain ⟨id, hx⟩ := mem_get hlt
      have hx' := hx
      rw [hks] at hx'
      obtain ⟨vs0, hl1, hl2⟩ := swF_at (s := m) hok.k1 hx'
      rw [← hks, ← hfold] at hl2
      dsimp only at hl2
      have hk1 : keysOK (cs1.map fun c => (c.1, c.2.2)) := by
        have := swF_ok (s := m) (ks := ks.take k) (u := (st.ch, [])) hok.k1
        rw [← hfold] at this
        exact this
      rcases ha with ha | ⟨b, rfl⟩
      · omega
      rcases cr_case cs1 hk1 id with ⟨p, q, b2, vs, rfl, e1, e2, e3, e4⟩ | ⟨e1, e2, e3⟩
      · rw [e2] at hl2
        obtain rfl := Option.some.inj hl2
        have hco := hw.co _ (lk_memL hl1)
        have hcv : chV ((p ++ (id, b2, vs) :: q).map fun c => (c.1, c.2.2)) id = vs := by unfold chV; rw [e2]; rfl
        have hstep := foldl_take (sw1 m) (st.ch, []) hx
        rw [← hfold] at hstep
        have hrs : RdS (slO 30 1 (some ⟨b, 0, none⟩) ks.length c (ks.map U64) :: slO 222 2 a3 g.length c3 (g.flatMap gcells) :: vP v mc mi st.dim m :: vC mc (p ++ (id, b2, vs) :: q) :: vI mi is :: chsH M (p ++ (id, b2, vs) :: q) :: roM M :: L) (some ⟨b, 0, none⟩) ks.length 1 (ks.flatMap cU) := by
          rw [flat_U]; exact RdS.ofS (by simp) (.inr ⟨b, rfl⟩)
        obtain ⟨b', o', hbo, hr⟩ := RdS.elem (g := cU) (fun _ => rfl) hrs hx rfl
        cases hbo
        clear hrs
        refine Q.r ?_; (repeat (intro b1; refine Q.r ?_))
        refine S.y (Y.lk false rfl rfl (fun w => Tryz.zeroValue216 w)) ?_
        rw [e1]
        dsimp only
        refine Q.r ?_; (repeat (intro b1; refine Q.r ?_))
        refine opsS_ent (L' := chainH M b2 vs :: slO 30 1 (some ⟨b, 0, none⟩) ks.length c (ks.map U64) :: slO 222 2 a3 g.length c3 (g.flatMap gcells) :: vP v mc mi st.dim m :: vC mc (p ++ (id, b2, vs) :: q) :: vI mi is :: chsH M (p ++ q) :: roM M :: L) ?_ ?_
        · refine Ent.trans (?_ : Ent _ (chsH M (p ++ (id, b2, vs) :: q) :: slO 30 1 (some ⟨b, 0, none⟩) ks.length c (ks.map U64) :: slO 222 2 a3 g.length c3 (g.flatMap gcells) :: vP v mc mi st.dim m :: vC mc (p ++ (id, b2, vs) :: q) :: vI mi is :: roM M :: L)) ?_
          · repeat (first | exact Ent.refl _ | exact Ent.nil | refine Ent.pick ?_ | refine Ent.nilS ?_ | refine Ent.nilM ?_ | refine Ent.drop ?_)
          refine (chs_out (p := p) (q := q) (x := (id, b2, vs)) (M := M)).trans (Ent.cons ?_)
          repeat (first | exact Ent.refl _ | exact Ent.nil | refine Ent.pick ?_ | refine Ent.nilS ?_ | refine Ent.nilM ?_ | refine Ent.drop ?_)
        refine S.cr rfl (ChSweep_spec M b2 vs m _ hco.1 (by have := hco.2.1; dsimp only at this; omega)) ?_
        rintro _ _ ⟨a4, c4, rfl, rfl⟩
        obtain ⟨nn, hN⟩ : ∃ nn, nn = cutN vs m := ⟨_, rfl⟩
        have hNl : nn ≤ vs.length := by rw [hN]; exact cut_le _ _
        have hvl : vs.length ≤ n := hco.2.1
        rw [← hN]
        refine opsS_addr a4 (fun ha4 => ?_)
        refine Q.r ?_; (repeat (intro b1; refine Q.r ?_))
        refine swp_cutB (σ := Option Addr × Nat) (fun u => [(0, ptrV v), (1, .int .u64 m), (7, .int .u64 id), (27, .slice (some ⟨b, 0, none⟩) ks.length c), (28, .int .i64 ks.length), (29, .int .i64 k), (5, .slice u.1 (g ++ (vs.take nn).map fun v => (id, v.1)).length u.2)])
          (fun u => slO 222 2 u.1 (g ++ (vs.take nn).map fun v => (id, v.1)).length u.2 ((g ++ (vs.take nn).map fun v => (id, v.1)).flatMap gcells) :: chainH M b2 (vs.drop nn) :: slO 30 1 (some ⟨b, 0, none⟩) ks.length c (ks.map U64) :: vP v mc mi st.dim m :: vC mc (p ++ (id, b2, vs) :: q) :: vI mi is :: chsH M (p ++ q) :: roM M :: L) (fun _ => True) ?_ ?_
        · refine swp_loop (σ := Nat × Option Addr × Nat × GL) (fun u => [(0, ptrV v), (1, .int .u64 m), (7, .int .u64 id), (27, .slice (some ⟨b, 0, none⟩) ks.length c), (28, .int .i64 ks.length), (29, .int .i64 k), (40, .slice a4 nn c4), (41, .int .i64 nn), (5, .slice u.2.1 u.2.2.2.length u.2.2.1), (42, .int .i64 u.1)])
            (fun u => slO 30 1 a4 nn c4 (((vs.take nn).map (·.1)).map U64) :: slO 222 2 u.2.1 u.2.2.2.length u.2.2.1 (u.2.2.2.flatMap gcells) :: chainH M b2 (vs.drop nn) :: slO 30 1 (some ⟨b, 0, none⟩) ks.length c (ks.map U64) :: vP v mc mi st.dim m :: vC mc (p ++ (id, b2, vs) :: q) :: vI mi is :: chsH M (p ++ q) :: roM M :: L)
            (fun u => u.1 ≤ nn ∧ u.2.2.2 = g ++ (vs.take u.1).map fun v => (id, v.1)) (fun u => nn - u.1) (0, a3, c3, g) ⟨rfl, rfl, rfl, rfl, rfl, rfl, rfl, rfl, rfl, rfl, trivial⟩ ?_ ⟨by dsimp only; omega, by simp⟩ ?_
          · dsimp only
            repeat (first | exact Ent.refl _ | exact Ent.nil | refine Ent.pick ?_ | refine Ent.nilS ?_ | refine Ent.nilM ?_ | refine Ent.drop ?_)
          rintro ⟨j, a5, c5, g5⟩ ⟨hj, hg5⟩
          dsimp only at hj hg5 ⊢
          have hg5l : g5.length = g.length + min j vs.length := by rw [hg5]; simp
          by_cases hjl : j < nn
          · obtain ⟨w, hwj⟩ := mem_get (l := vs) (k := j) (by omega)
            rcases ha4 with ha4 | ⟨b4, rfl⟩
            · omega
            have hwm : ((vs.take nn).map (·.1))[j]? = some w.1 := by rw [List.getElem?_map, List.getElem?_take, if_pos hjl, hwj]; rfl
            have hNN : nn = ((vs.take nn).map (·.1)).length := by simp; omega
            have hrs : RdS (slO 30 1 (some ⟨b4, 0, none⟩) nn c4 (((vs.take nn).map (·.1)).map U64) :: slO 222 2 a5 g5.length c5 (g5.flatMap gcells) :: chainH M b2 (vs.drop nn) :: slO 30 1 (some ⟨b, 0, none⟩) ks.length c (ks.map U64) :: vP v mc mi st.dim m :: vC mc (p ++ (id, b2, vs) :: q) :: vI mi is :: chsH M (p ++ q) :: roM M :: L) (some ⟨b4, 0, none⟩) nn 1 (((vs.take nn).map (·.1)).flatMap cU) := by
              rw [flat_U]; exact RdS.ofS (by simp; omega) (.inr ⟨b4, rfl⟩)
            obtain ⟨b', o', hbo, hr⟩ := RdS.elem (g := cU) (fun _ => rfl) hrs hwm hNN
            cases hbo
            clear hrs
            refine Q.r ?_; (repeat (intro b1; refine Q.r ?_))
            refine S.app rfl rfl (SrcS.sl RdC.row (by rfl) (by rfl)) (by rfl) (by omega) (by omega) (fun a6 c6 => ?_)
            refine Q.r ?_; (repeat (intro b1; refine Q.r ?_))
            refine ⟨(j + 1, a6, c6, g5 ++ [(id, w.1)]), ⟨rfl, rfl, rfl, rfl, rfl, rfl, rfl, rfl, congrArg some (by simp), rfl, trivial⟩, ?_, ⟨by dsimp only; omega, ?_⟩, by dsimp only; omega⟩
            · dsimp only
              rw [len_snoc, flat_snoc]
              repeat (first | exact Ent.refl _ | exact Ent.nil | refine Ent.pick ?_ | refine Ent.nilS ?_ | refine Ent.nilM ?_ | refine Ent.drop ?_)
            · dsimp only
              rw [hg5, take_snoc hwj, List.map_append, List.append_assoc]; rfl
          · have hje : j = nn := by omega
            subst hje
            refine Q.r ?_; (repeat (intro b1; refine Q.r ?_))
            subst hg5
            exact ⟨(a5, c5), ⟨rfl, rfl, rfl, rfl, rfl, rfl, rfl, trivial⟩, by repeat (first | exact Ent.refl _ | exact Ent.nil | refine Ent.pick ?_ | refine Ent.nilS ?_ | refine Ent.nilM ?_ | refine Ent.drop ?_), trivial⟩
        rintro ⟨a5, c5⟩ -
        dsimp only
        have hat : AtC ((p ++ (id, b2, vs) :: q).map fun c => (c.1, c.2.2)) id p q b2 vs := AtC.some e3 e4
        have hgg : ((g ++ (vs.take nn).map fun v => (id, v.1)) : GL).length ≤ (k + 1) * 10000 := by
          rw [List.length_append, List.length_map, List.length_take]; omega
        have hdl : (vs.drop nn).length = vs.length - nn := List.length_drop ..
        refine Q.r ?_; (repeat (intro b1; refine Q.r ?_))
        refine S.y (Y.lk false rfl rfl (fun w => Tryz.zeroValue216 w)) ?_
        rw [e1]
        dsimp only
        refine S.cch b2 rfl (ChLen_spec M b2 _ _) ?_
        rintro _ _ ⟨rfl, rfl⟩
        by_cases h0 : (vs.drop nn).length = 0
        · refine Q.r ?_; (repeat (intro b1; refine Q.r ?_))
          refine S.dl rfl rfl ?_
          rw [delP e3 e4]
          refine Q.r ?_; (repeat (intro b1; refine Q.r ?_))
          refine ⟨(k + 1, a5, c5, g ++ (vs.take nn).map (fun v => (id, v.1)), p ++ q), ⟨rfl, rfl, rfl, rfl, rfl, rfl, trivial⟩, ?_, ⟨by dsimp only; omega, by dsimp only; exact hgg, ?_⟩, by dsimp only; omega⟩
          · dsimp only
            repeat (first | exact Ent.refl _ | exact Ent.nil | refine Ent.pick ?_ | refine Ent.nilS ?_ | refine Ent.nilM ?_ | refine Ent.drop ?_)
          · dsimp only
            rw [hstep, hat.del rfl]
            unfold sw1
            dsimp only
            rw [hcv, ← hN, if_pos h0]
        · refine Q.r ?_; (repeat (intro b1; refine Q.r ?_))
          refine ⟨(k + 1, a5, c5, g ++ (vs.take nn).map (fun v => (id, v.1)), p ++ (id, b2, vs.drop nn) :: q), ⟨rfl, rfl, rfl, rfl, rfl, rfl, trivial⟩, ?_, ⟨by dsimp only; omega, by dsimp only; exact hgg, ?_⟩, by dsimp only; omega⟩
          · dsimp only
            rw [show vC mc (p ++ (id, b2, vs) :: q) = vC mc (p ++ (id, b2, vs.drop nn) :: q) by unfold vC; simp]
            refine Ent.pick (Ent.pick (Ent.pick (Ent.pick (Ent.pick ?_))))
            refine Ent.trans ?_ (chs_in (p := p) (q := q) (x := (id, b2, vs.drop nn)))
            repeat (first | exact Ent.refl _ | exact Ent.nil | refine Ent.pick ?_ | refine Ent.nilS ?_ | refine Ent.nilM ?_ | refine Ent.drop ?_)
          · dsimp only
            rw [hstep, hat.put]
            unfold sw1
            dsimp only
            rw [hcv, ← hN, if_neg h0]
      · rw [e2] at hl2
        cases hl2
    · have hke : k = ks.length := by omega
      subst hke
      rw [List.take_length] at hfold
      have h1' : (swF m ks st.ch).1 = cs1.map (fun c => (c.1, c.2.2)) := (congrArg Prod.fst hfold).symm
      have h2' : (swF m ks st.ch).2 = g := (congrArg Prod.snd hfold).symm
      rw [h1', h2']
      refine Q.r ?_; (repeat (intro b1; refine Q.r ?_))
      exact ⟨(a3, c3, cs1), ⟨rfl, trivial⟩, by repeat (first | exact Ent.refl _ | exact Ent.nil | refine Ent.pick ?_ | refine Ent.nilS ?_ | refine Ent.nilM ?_ | refine Ent.drop ?_), rfl, by omega⟩
  rintro ⟨a3, c3, cs1⟩ ⟨hcs, hgb⟩
  dsimp only at hcs hgb ⊢
  refine Q.r ?_; (repeat (intro b1; refine Q.r ?_))
  rw [← hks]
  refine N.r1 (RV.tmp rfl RV.nil) (Ent.cons ?_) ⟨a3, c3, rfl, hgb, rfl⟩
  have hok2 : VOK M { st with mark := m, ch := (swF m ks st.ch).1 } cs1 is := ⟨hcs, hok.its, hok.ok, swF_ok (u := (st.ch, [])) hok.k1, hok.k2⟩
  exact vault_shut hok2
end Go.Proofs.YtjidejcehmamkaaGreatDoor
namespace Go.Proofs.YtjidejcehmamkaaGreatDoor
open Go Go.SX
attribute [local irreducible] swp opsS thenS blockS retS CallsS St Ent YieldS anyS drawS
theorem cut_iff {ovs : List OV} {s : Int} (hs : sortedV (ovs.map OV.abs)) {i : Nat} {o : OV} (ho : ovs[i]? = some o) :
    cutN (ovs.map OV.abs) s ≤ i ↔ (s < o.id ∨ ((i + 1 = ovs.length ∨ ∃ y, ovs[i + 1]? = some y ∧ s < y.id) ∧ 0 < o.vec.length)) := by
  have hil : i < ovs.length := (List.getElem?_eq_some_iff.1 ho).1
  have hle := aft_le (ovs.map OV.abs) s
  rw [List.length_map] at hle
  have hat : ∀ (j : Nat) (y : OV), ovs[j]? = some y → (ovs.map OV.abs)[j]? = some (y.id, y.vec) := fun j y h => by rw [List.getElem?_map, h]; rfl
  unfold cutN
  obtain ⟨n, hn⟩ : ∃ n, n = aftN (ovs.map OV.abs) s := ⟨_, rfl⟩
  rw [← hn] at hle ⊢
  by_cases h1 : n ≤ i
  · have h2 := aft_hi (st := s) hs i _ (by omega) (hat i o ho)
    constructor
    · intro _; exact .inl h2
    · intro _
      by_cases h0 : n = 0
      · rw [if_pos h0]; omega
      · rw [if_neg h0]; split <;> omega
  · have h2 := aft_lo (st := s) hs i _ (by omega) (hat i o ho)
    dsimp only at h2
    rw [if_neg (by omega)]
    by_cases h3 : i = n - 1
    · have e : (((ovs.map OV.abs)[n - 1]?).map (·.2)).getD [] = o.vec := by rw [← h3, hat i o ho]; rfl
      rw [e]
      have hlast : i + 1 = ovs.length ∨ ∃ y, ovs[i + 1]? = some y ∧ s < y.id := by
        by_cases h4 : i + 1 = ovs.length
        · exact .inl h4
        · obtain ⟨y, hy⟩ := mem_get (l := ovs) (k := i + 1) (by omega)
          exact .inr ⟨y, hy, aft_hi (st := s) hs (i + 1) _ (by omega) (hat _ y hy)⟩
      by_cases hz : 0 < o.vec.length
      · rw [if_pos hz]
        exact ⟨fun _ => .inr ⟨hlast, hz⟩, fun _ => by omega⟩
      · rw [if_neg hz]
        constructor
        · intro h; omega
        · rintro (h | ⟨_, h⟩)
          · omega
          · exact absurd h hz
    · constructor
      · intro h
        exfalso
        split at h <;> omega
      · rintro (h | ⟨h | ⟨y, hy, h⟩, _⟩)
        · omega
        · omega
        · have := aft_lo (st := s) hs (i + 1) _ (by omega) (hat _ y hy)
          dsimp only at this
          omega
set_option maxHeartbeats 4000000 in
theorem RChSweep_spec (a : Option Addr) (c : Nat) (ovs : List OV) (s : Int) (L : List HP) (h : RdS L a ovs.length 2 (ovs.flatMap OV.cells)) (hn : ovs.length ≤ 1000000) (hs : sortedV (ovs.map OV.abs)) :
    CallsS Tryz.prog 149 [.slice a ovs.length c, .int .u64 s] L
      (fun r L' => ∃ a1 c1 a2 c2, r = .tuple #[.slice a1 (ovs.drop (cutN (ovs.map OV.abs) s)).length c1, .slice a2 ((ovs.take (cutN (ovs.map OV.abs) s)).map (·.id)).length c2] ∧ L' = slO 175 2 a1 (ovs.drop (cutN (ovs.map OV.abs) s)).length c1 ((ovs.drop (cutN (ovs.map OV.abs) s)).flatMap OV.cells) :: slO 30 1 a2 ((ovs.take (cutN (ovs.map OV.abs) s)).map (·.id)).length c2 (((ovs.take (cutN (ovs.map OV.abs) s)).map (·.id)).map U64) :: L) := by
  obtain ⟨nn, hnn⟩ : ∃ nn, nn = cutN (ovs.map OV.abs) s := ⟨_, rfl⟩
  have hci := fun i o ho => cut_iff (s := s) hs (i := i) (o := o) ho
  rw [← hnn] at hci ⊢
  clear hnn hs
  refine CallsS.of_body Tryz.func149 rfl rfl rfl ?_
  refine Q.r ?_; (repeat (intro b1; refine Q.r ?_))
  refine swp_loop (σ := Nat × (Option Addr × Nat × List OV) × Option Addr × Nat × List Int) (fun u => [(0, .slice a ovs.length c), (1, .int .u64 s), (11, .slice a ovs.length c), (12, .int .i64 ovs.length), (6, .slice u.2.1.1 u.2.1.2.2.length u.2.1.2.1), (7, .slice u.2.2.1 u.2.2.2.2.length u.2.2.2.1), (13, .int .i64 u.1)])
    (fun u => slO 175 2 u.2.1.1 u.2.1.2.2.length u.2.1.2.1 (u.2.1.2.2.flatMap OV.cells) :: slO 30 1 u.2.2.1 u.2.2.2.2.length u.2.2.2.1 (u.2.2.2.2.map U64) :: L)
    (fun u => u.1 ≤ ovs.length ∧ u.2.1.2.2 = (ovs.take u.1).drop nn ∧ u.2.2.2.2 = ((ovs.take u.1).take nn).map (·.id)) (fun u => ovs.length - u.1) (0, (none, 0, []), none, 0, []) ⟨rfl, rfl, rfl, rfl, rfl, rfl, rfl, trivial⟩ ?_ ⟨by omega, by simp, by simp⟩ ?_
  · exact Ent.trans slO_nil (Ent.trans slO_nil (Ent.perm (.swap _ _ _)))
  rintro ⟨k, ⟨a1, c1, us⟩, a2, c2, gs⟩ ⟨hk, hus, hgs⟩
  dsimp only at hk hus hgs ⊢
  have hul : us.length ≤ k := by rw [hus]; simp; omega
  have hgl : gs.length ≤ k := by rw [hgs]; simp; omega
  by_cases hlt : k < ovs.length
  · obtain ⟨o, ho⟩ := mem_get hlt
    have hci' := hci k o ho
    have hrs : RdS (slO 175 2 a1 us.length c1 (us.flatMap OV.cells) :: slO 30 1 a2 gs.length c2 (gs.map U64) :: L) a ovs.length 2 (ovs.flatMap OV.cells) := h.sub
    obtain ⟨b, oo, hia, hr⟩ := RdS.elem (g := OV.cells) (fun _ => rfl) hrs ho rfl
    clear hrs
    subst hia
    refine Q.r ?_; (repeat (intro b1; refine Q.r ?_))
    refine opsS_cutT (σ := Bool) (fun t => [(0, .slice (some ⟨b, oo, none⟩) ovs.length c), (1, .int .u64 s), (9, .pointer (some ⟨b1, 0, none⟩)), (10, .bool t), (11, .slice (some ⟨b, oo, none⟩) ovs.length c), (12, .int .i64 ovs.length), (6, .slice a1 us.length c1), (7, .slice a2 gs.length c2), (13, .int .i64 k)])
      (fun _ => pt b1 (cl o.cells 175) :: slO 175 2 a1 us.length c1 (us.flatMap OV.cells) :: slO 30 1 a2 gs.length c2 (gs.map U64) :: L)
      (fun t => t = true ↔ (k + 1 = ovs.length ∨ ∃ y, ovs[k + 1]? = some y ∧ s < y.id)) ?_ ?_
    · by_cases h4 : k + 1 = ovs.length
      · refine Q.rn ?_; (repeat (intro b1; refine Q.rn ?_))
        exact ⟨_, ⟨rfl, rfl, rfl, rfl, rfl, rfl, rfl, rfl, rfl, trivial⟩, Ent.refl _, by simp [h4]⟩
      · obtain ⟨y, hy⟩ := mem_get (l := ovs) (k := k + 1) (by omega)
        have hrs : RdS (pt b1 (cl o.cells 175) :: slO 175 2 a1 us.length c1 (us.flatMap OV.cells) :: slO 30 1 a2 gs.length c2 (gs.map U64) :: L) (some ⟨b, oo, none⟩) ovs.length 2 (ovs.flatMap OV.cells) := h.sub
        obtain ⟨b', oo', hia', hr2⟩ := RdS.elem (g := OV.cells) (fun _ => rfl) hrs hy rfl
        cases hia'
        clear hrs
        repeat (first | refine S.y (Y.ldRj rfl (by first | assumption | exact RdC.sub (by assumption)) rfl) ?_ | refine Q.yn ?_ | refine S.stI rfl rfl (by first | omega | (rw [Array.size_setIfInBounds]; omega)) ?_ | (refine GQ.y ?_; refine Q.y ?_) | refine Q.go ?_ | (refine GQ.g ?_; refine Q.gq ?_) | (refine GQ.s ?_; refine Q.st ?_) | (refine GQ.g ?_; refine Q.gd ?_) | refine Q.ct rfl ?_ | refine Q.cf rfl ?_ | (refine GQ.a ?_; refine Q.al (fun b1 => ?_)))
        exact ⟨_, ⟨rfl, rfl, rfl, rfl, rfl, rfl, rfl, rfl, rfl, trivial⟩, Ent.refl _, by simp [h4, hy]⟩
    intro t ht
    rw [← ht] at hci'
    repeat (first | (refine GQ.y ?_; refine Q.y ?_) | refine Q.go ?_ | (refine GQ.g ?_; refine Q.gq ?_) | (refine GQ.s ?_; refine Q.st ?_) | (refine GQ.a ?_; refine Q.al (fun b1 => ?_)))
    refine opsS_cutT (σ := Bool) (fun t => [(0, .slice (some ⟨b, oo, none⟩) ovs.length c), (1, .int .u64 s), (9, .pointer (some ⟨b1, 0, none⟩)), (45, .bool t), (11, .slice (some ⟨b, oo, none⟩) ovs.length c), (12, .int .i64 ovs.length), (6, .slice a1 us.length c1), (7, .slice a2 gs.length c2), (13, .int .i64 k)])
      (fun _ => pt b1 (cl o.cells 175) :: slO 175 2 a1 us.length c1 (us.flatMap OV.cells) :: slO 30 1 a2 gs.length c2 (gs.map U64) :: L)
      (fun t => t = true ↔ nn ≤ k) ?_ ?_
    · rw [hci']
      by_cases hq1 : s < o.id
      · refine Q.r ?_; (repeat (intro b1; refine Q.r ?_))
        exact ⟨_, ⟨rfl, rfl, rfl, rfl, rfl, rfl, rfl, rfl, rfl, trivial⟩, Ent.refl _, by simp [hq1]⟩
      · cases t with
        | false =>
          refine Q.r ?_; (repeat (intro b1; refine Q.r ?_))
          exact ⟨_, ⟨rfl, rfl, rfl, rfl, rfl, rfl, rfl, rfl, rfl, trivial⟩, Ent.refl _, by simp [hq1]⟩
        | true =>
          refine Q.r ?_; (repeat (intro b1; refine Q.r ?_))
          exact ⟨_, ⟨rfl, rfl, rfl, rfl, rfl, rfl, rfl, rfl, rfl, trivial⟩, Ent.refl _, by simp [hq1]⟩
    intro kp hkp
    have hne : ovs.take (k + 1) = ovs.take k ++ [o] := take_snoc ho
    have hkl : (ovs.take k).length = k := by rw [List.length_take]; omega
    cases kp with
    | true =>
      have hnk := hkp.1 rfl
      refine Q.r ?_; (repeat (intro b1; refine Q.r ?_))
      refine S.app rfl rfl (SrcS.sl RdC.row (by rfl) (by rfl)) (by rfl) (by omega) (by omega) (fun a4 c4 => ?_)
      refine Q.r ?_; (repeat (intro b1; refine Q.r ?_))
      refine ⟨(k + 1, (a4, c4, us ++ [o]), a2, c2, gs), ⟨rfl, rfl, rfl, rfl, congrArg some (by simp), rfl, rfl, trivial⟩, ?_, ⟨by dsimp only; omega, ?_, ?_⟩, by dsimp only; omega⟩
      · dsimp only
        rw [len_snoc, flat_snoc]
        repeat (first | exact Ent.refl _ | exact Ent.nil | refine Ent.pick ?_ | refine Ent.nilS ?_ | refine Ent.nilM ?_ | refine Ent.drop ?_)
      · dsimp only
        rw [hne, List.drop_append_of_le_length (by omega), hus]
      · dsimp only
        rw [hne, List.take_append_of_le_length (by omega), hgs]
    | false =>
      have hnk : ¬ nn ≤ k := fun h => by have := hkp.2 h; cases this
      refine Q.r ?_; (repeat (intro b1; refine Q.r ?_))
      refine S.app rfl rfl (SrcS.sl RdC.row (by rfl) (by rfl)) (by rfl) (by omega) (by omega) (fun a4 c4 => ?_)
      refine Q.r ?_; (repeat (intro b1; refine Q.r ?_))
      refine ⟨(k + 1, (a1, c1, us), a4, c4, gs ++ [o.id]), ⟨rfl, rfl, rfl, rfl, rfl, congrArg some (by simp), rfl, trivial⟩, ?_, ⟨by dsimp only; omega, ?_, ?_⟩, by dsimp only; omega⟩
      · dsimp only
        rw [len_snoc, List.map_append]
        repeat (first | exact Ent.refl _ | exact Ent.nil | refine Ent.pick ?_ | refine Ent.nilS ?_ | refine Ent.nilM ?_ | refine Ent.drop ?_)
      · dsimp only
        rw [hus, List.drop_eq_nil_of_le (by rw [List.length_take]; omega), List.drop_eq_nil_of_le (by rw [List.length_take]; omega)]
      · dsimp only
        rw [hgs, List.take_of_length_le (l := ovs.take k) (i := nn) (by omega), List.take_of_length_le (l := ovs.take (k + 1)) (i := nn) (by rw [List.length_take]; omega), hne, List.map_append]; rfl
  · have hke : k = ovs.length := by omega
    subst hke
    rw [List.take_length] at hus hgs
    subst hus hgs
    refine Q.r ?_; (repeat (intro b1; refine Q.r ?_))
    exact N.r2 (RV.tmp rfl (RV.tmp rfl RV.nil)) (Ent.refl _) ⟨a1, c1, a2, c2, rfl, rfl⟩
set_option maxHeartbeats 2000000 in
theorem RSet0_spec (p : Nat) (dim : Int) (a : Option Addr) (es : List EV) (c : Nat) (a' : Option Addr) (is : List IV) (c' : Nat) (mark id : Int) (na : Option Addr) (nc : Nat) (M : Nat → Option Obj) (A : List HP) (h : SlM M a es.length 2 (es.flatMap EV.cells)) (hn : es.length ≤ 1000000) :
    CallsS Tryz.prog 143 [ptrV p, .int .u64 id, .slice na 0 nc] (rP p dim a es c a' is c' mark :: roM M :: A)
      (fun v L' => ∃ a2 c2, v = .tuple #[] ∧ L' = slO 173 2 a2 (es.filter fun e => !decide (e.id = id)).length c2 ((es.filter fun e => !decide (e.id = id)).flatMap EV.cells) :: rP p dim a2 (es.filter fun e => !decide (e.id = id)) c2 a' is c' mark :: roM M :: A) := by
  refine CallsS.of_body Tryz.func143 rfl rfl rfl ?_
  refine Q.r ?_; (repeat (intro b1; refine Q.r ?_))
  refine swp_cutB (σ := Option Addr × Nat) (fun u => [(0, ptrV p), (1, .int .u64 id), (2, .slice na 0 nc), (6, .slice u.1 (es.filter fun e => !decide (e.id = id)).length u.2), (7, .bool true)])
    (fun u => slO 173 2 u.1 (es.filter fun e => !decide (e.id = id)).length u.2 ((es.filter fun e => !decide (e.id = id)).flatMap EV.cells) :: rP p dim a es c a' is c' mark :: roM M :: A) (fun _ => True) ?_ ?_
  · refine swp_loop (σ := Nat × Option Addr × Nat × List EV) (fun u => [(0, ptrV p), (1, .int .u64 id), (2, .slice na 0 nc), (16, .slice a es.length c), (17, .int .i64 es.length), (6, .slice u.2.1 u.2.2.2.length u.2.2.1), (7, .bool true), (18, .int .i64 u.1)])
      (fun u => slO 173 2 u.2.1 u.2.2.2.length u.2.2.1 (u.2.2.2.flatMap EV.cells) :: rP p dim a es c a' is c' mark :: roM M :: A)
      (fun u => u.1 ≤ es.length ∧ u.2.2.2 = (es.take u.1).filter fun e => !decide (e.id = id)) (fun u => es.length - u.1) (0, none, 0, []) ⟨rfl, rfl, rfl, rfl, rfl, rfl, rfl, rfl, trivial⟩ slO_nil ⟨by omega, by simp⟩ ?_
    rintro ⟨k, a3, c3, us⟩ ⟨hk, hus⟩
    dsimp only at hk hus ⊢
    have hul : us.length ≤ k := by
      rw [hus]
      have := List.length_filter_le (fun e : EV => !decide (e.id = id)) (es.take k)
      rw [List.length_take] at this; omega
    by_cases hlt : k < es.length
    · obtain ⟨e, he⟩ := mem_get hlt
      have hrs : RdS (slO 173 2 a3 us.length c3 (us.flatMap EV.cells) :: rP p dim a es c a' is c' mark :: roM M :: A) a es.length 2 (es.flatMap EV.cells) := h.rd
      obtain ⟨b, oo, hia, hr⟩ := RdS.elem (g := EV.cells) (fun _ => rfl) hrs he rfl
      clear hrs
      rw [hia] at hr ⊢
      have hne : es.take k ++ [e] = es.take (k + 1) := (take_snoc he).symm
      by_cases hq : e.id = id
      · refine Q.r ?_; (repeat (intro b1; refine Q.r ?_))
        refine ⟨(k + 1, a3, c3, us), ⟨rfl, rfl, rfl, rfl, rfl, rfl, rfl, rfl, trivial⟩, by repeat (first | exact Ent.refl _ | exact Ent.nil | refine Ent.pick ?_ | refine Ent.nilS ?_ | refine Ent.nilM ?_ | refine Ent.drop ?_), ⟨by dsimp only; omega, ?_⟩, by dsimp only; omega⟩
        dsimp only
        rw [← hne, List.filter_append, hus]; simp [hq]
      · refine Q.r ?_; (repeat (intro b1; refine Q.r ?_))
        refine S.app rfl rfl (SrcS.sl RdC.row (by rfl) (by rfl)) (by rfl) (by omega) (by omega) (fun a7 c7 => ?_)
        refine Q.r ?_; (repeat (intro b1; refine Q.r ?_))
        refine ⟨(k + 1, a7, c7, us ++ [e]), ⟨rfl, rfl, rfl, rfl, rfl, congrArg some (by simp), rfl, rfl, trivial⟩, ?_, ⟨by dsimp only; omega, ?_⟩, by dsimp only; omega⟩
        · dsimp only
          rw [len_snoc, flat_snoc]
          repeat (first | exact Ent.refl _ | exact Ent.nil | refine Ent.pick ?_ | refine Ent.nilS ?_ | refine Ent.nilM ?_ | refine Ent.drop ?_)
        · dsimp only
          rw [← hne, List.filter_append, hus]; simp [hq]
    · have hke : k = es.length := by omega
      subst hke
      rw [List.take_length] at hus
      subst hus
      refine Q.r ?_; (repeat (intro b1; refine Q.r ?_))
      exact ⟨(a3, c3), ⟨rfl, rfl, rfl, rfl, rfl, trivial⟩, Ent.refl _, trivial⟩
  rintro ⟨a3, c3⟩ -
  dsimp only
  refine Q.r ?_; (repeat (intro b1; refine Q.r ?_))
  exact N.n0 RV.nil (Ent.refl _) ⟨a3, c3, rfl, rfl⟩
theorem ROK.unset {M : Nat → Option Obj} {st : VS} {a a' : Option Addr} {c c' : Nat} {es : List EV} {is : List IV} (h : ROK M st a c es a' c' is) {M2 : Nat → Option Obj} (hl : leM M M2) {a2 : Option Addr} {c2 : Nat} (id : Int)
    (hs : SlM M2 a2 (es.filter fun e => !decide (e.id = id)).length 2 ((es.filter fun e => !decide (e.id = id)).flatMap EV.cells)) (hc : (es.filter fun e => !decide (e.id = id)).length ≤ c2) : ROK M2 { st with ch := delL st.ch id } a2 c2 (es.filter fun e => !decide (e.id = id)) a' c' is := by
  refine ⟨?_, pw_filter h.cs _, h.its, h.ss, fun e he => (h.oe e (List.mem_filter.1 he).1).mono hl, fun i hi => (h.oi i hi).mono hl, hs, h.sI.mono hl, hc, h.cI, delL_ok h.k1 id, h.k2, h.oc⟩
  have := h.ch.filter (fun u => !decide (u.1 = id))
  rw [List.filter_map] at this
  exact this
end Go.Proofs.YtjidejcehmamkaaGreatDoor
namespace Go.Proofs.YtjidejcehmamkaaGreatDoor
open Go Go.SX
attribute [local irreducible] swp opsS thenS blockS retS CallsS St Ent YieldS anyS drawS
theorem ROK.ids {M : Nat → Option Obj} {st : VS} {a a' : Option Addr} {c c' : Nat} {es : List EV} {is : List IV} (h : ROK M st a c es a' c' is) : swIds st.ch = es.map (·.id) := by
  refine sorted_uniq ((sortL_perm _).trans ?_) (sortL_sorted _) (h.cs.imp fun h => by omega)
  have := (h.ch.map (·.1)).symm
  rw [map_id_key] at this
  exact this
theorem sw1_g {s : Int} {u : List (Int × VL) × GL} {id : Int} {vs : VL} (h : chV u.1 id = vs) : (sw1 s u id).2 = u.2 ++ (vs.take (cutN vs s)).map fun v => (id, v.1) := by
  unfold sw1; rw [h]
theorem sw1_d {s : Int} {u : List (Int × VL) × GL} {id : Int} {vs : VL} (h : chV u.1 id = vs) (h0 : (vs.drop (cutN vs s)).length = 0) : (sw1 s u id).1 = delL u.1 id := by
  unfold sw1; rw [h]; dsimp only; rw [if_pos h0]
theorem sw1_p {s : Int} {u : List (Int × VL) × GL} {id : Int} {vs : VL} (h : chV u.1 id = vs) (h0 : ¬ (vs.drop (cutN vs s)).length = 0) : (sw1 s u id).1 = putL u.1 id (vs.drop (cutN vs s)) := by
  unfold sw1; rw [h]; dsimp only; rw [if_neg h0]
theorem insE_len (es : List EV) (nw : EV) : (insE es nw).length ≤ es.length + 1 := by
  unfold insE
  rw [List.length_append, List.length_cons]
  have e2 : (es.filter fun e => decide (e.id < nw.id)).length + (es.filter fun e => !decide (e.id < nw.id)).length = es.length := by
    have := (List.filter_append_perm (fun e : EV => decide (e.id < nw.id)) es).length_eq
    simpa using this
  have e3 : (es.filter fun e => decide (nw.id < e.id)).length ≤ (es.filter fun e => !decide (e.id < nw.id)).length := by
    rw [← List.countP_eq_length_filter, ← List.countP_eq_length_filter]
    exact List.countP_mono_left fun u hu h => by simp at h ⊢; omega
  omega
set_option maxHeartbeats 4000000 in
theorem RSweep_spec (p : Nat) (st : VS) (n : Nat) (s : Int) (L : List HP) (hw : WF st n) (hn : n ≤ 10000) :
    CallsS Tryz.prog 97 [ptrV p, .int .u64 s] (refH p st :: L) (fun r L' => ∃ a c, r = .slice a (sweepG st s).length c ∧ L' = slO 254 2 a (sweepG st s).length c ((sweepG st s).flatMap gcells) :: refH p (sweepS st s) :: L) := by
  unfold sweepG sweepS
  refine calls_ref fun M a c es a' c' is hok => ?_
  obtain ⟨m, hm⟩ : ∃ m, m = min s 1099511627776 := ⟨_, rfl⟩
  rw [← hm]
  have hel : es.length ≤ 16 * n := by rw [hok.len.2]; exact hw.cl
  refine CallsS.of_body Tryz.func97 rfl rfl rfl ?_
  repeat (first | (refine GQ.y ?_; refine Q.y ?_) | refine Q.go ?_ | (refine GQ.g ?_; refine Q.gq ?_) | (refine GQ.s ?_; refine Q.st ?_) | (refine GQ.a ?_; refine Q.al (fun b1 => ?_)))
  refine swp_cutT (σ := Unit) (fun _ => [(0, ptrV p), (1, .int .u64 m), (5, .slice none 0 0)]) (fun _ => rP p st.dim a es c a' is c' st.mark :: roM M :: L) (fun _ => True) ?_ ?_
  · by_cases h1 : 1099511627776 < s
    · refine Q.r ?_; (repeat (intro b1; refine Q.r ?_))
      exact ⟨(), ⟨rfl, by rw [hm, show min s 1099511627776 = 1099511627776 by omega]; rfl, rfl, trivial⟩, Ent.refl _, trivial⟩
    · refine Q.r ?_; (repeat (intro b1; refine Q.r ?_))
      exact ⟨(), ⟨rfl, by rw [hm, show min s 1099511627776 = s by omega]; rfl, rfl, trivial⟩, Ent.refl _, trivial⟩
  intro _ _
  by_cases h1 : m ≤ st.mark
  · rw [if_pos h1, if_pos h1]
    refine Q.r ?_; (repeat (intro b1; refine Q.r ?_))
    refine N.r1 (RV.tmp rfl RV.nil) ?_ ⟨none, 0, rfl, rfl⟩
    refine Ent.trans ?_ slO_nil
    exact ref_shut hok
  rw [if_neg h1, if_neg h1]
  refine Q.r ?_; (repeat (intro b1; refine Q.r ?_))
  refine opsS_ent (slO_fold (sz := 2) (m := 0) rfl) ?_
  refine S.app0 rfl rfl rfl (SrcS.rd hok.sE.rd (EV_one _)) (by rfl) (by omega) (by omega) (fun a5 c5 => ?_)
  refine opsS_abs a5 (fun M0 hl0 hs5 => ?_)
  refine Q.r ?_; (repeat (intro b1; refine Q.r ?_))
  have hids := hok.ids
  have hik : ∀ (k : Nat) (e : EV), es[k]? = some e → (swIds st.ch)[k]? = some e.id := fun k e he => by rw [hids, List.getElem?_map, he]; rfl
  refine swp_cutB (σ := Option Addr × Nat) (fun u => [(5, .slice u.1 (swF m (swIds st.ch) st.ch).2.length u.2)]) (fun u => slO 254 2 u.1 (swF m (swIds st.ch) st.ch).2.length u.2 ((swF m (swIds st.ch) st.ch).2.flatMap gcells) :: refH p { st with mark := m, ch := (swF m (swIds st.ch) st.ch).1 } :: L) (fun _ => True) ?_ ?_
  · refine swp_loop (σ := Nat × Option Addr × Nat × GL × RX) (fun u => [(0, ptrV p), (1, .int .u64 m), (33, .slice a5 es.length c5), (34, .int .i64 es.length), (5, .slice u.2.1 u.2.2.2.1.length u.2.2.1), (35, .int .i64 u.1)])
      (fun u => slO 254 2 u.2.1 u.2.2.2.1.length u.2.2.1 (u.2.2.2.1.flatMap gcells) :: rP p st.dim u.2.2.2.2.a u.2.2.2.2.es u.2.2.2.2.c u.2.2.2.2.a' u.2.2.2.2.is u.2.2.2.2.c' m :: roM u.2.2.2.2.M :: L)
      (fun u => u.1 ≤ es.length ∧ u.2.2.2.1.length ≤ u.1 * 10000 ∧ leM M0 u.2.2.2.2.M ∧ u.2.2.2.2.es.length ≤ es.length + u.1 ∧ u.2.2.2.1 = (((swIds st.ch).take u.1).foldl (sw1 m) (st.ch, [])).2 ∧ ROK u.2.2.2.2.M { st with mark := m, ch := (((swIds st.ch).take u.1).foldl (sw1 m) (st.ch, [])).1 } u.2.2.2.2.a u.2.2.2.2.c u.2.2.2.2.es u.2.2.2.2.a' u.2.2.2.2.c' u.2.2.2.2.is)
      (fun u => es.length - u.1) (0, none, 0, [], ⟨a, c, es, a', c', is, M0⟩) ⟨rfl, rfl, rfl, rfl, rfl, rfl, trivial⟩ ?_ ⟨by omega, by simp, leM.refl M0, by simp, rfl, ?_⟩ ?_
    · refine Ent.trans ?_ slO_nil
      repeat (first | exact Ent.refl _ | exact Ent.nil | refine Ent.pick ?_ | refine Ent.nilS ?_ | refine Ent.nilM ?_ | refine Ent.drop ?_)
    · exact ⟨hok.ch, hok.cs, hok.its, hok.ss, fun e he => (hok.oe e he).mono hl0, fun i hi => (hok.oi i hi).mono hl0, hok.sE.mono hl0, hok.sI.mono hl0, hok.cE, hok.cI, hok.k1, hok.k2, hok.oc⟩
    rintro ⟨k, a3, c3, g, a1, c1, es1, a1', c1', is1, M1⟩ ⟨hk, hgl, hl1, hes1, hg, hok1⟩
    dsimp only at hk hgl hl1 hes1 hg hok1 ⊢
    by_cases hlt : k < es.length
    · obtain ⟨e, he⟩ := mem_get hlt
      have hme : e ∈ es := List.mem_of_getElem? he
      obtain ⟨vs0, hlk1, hlk2⟩ := swF_at (s := m) hok.k1 (hik k e he)
      have hvs0 : vs0 = e.vs.map OV.abs := by
        have := hok.chain hme
        rw [hlk1] at this
        exact Option.some.inj this
      subst hvs0
      have hco := hw.co _ (lk_memL hlk1)
      have hevl : e.vs.length ≤ n := by have := hco.2.1; simpa using this
      have hoe := (hok.oe e hme).mono (hl0.trans hl1)
      have hcv : chV (((swIds st.ch).take k).foldl (sw1 m) (st.ch, [])).1 e.id = e.vs.map OV.abs := by unfold chV; rw [hlk2]; rfl
      have hstep := foldl_take (sw1 m) (st.ch, []) (hik k e he)
      have hrs : RdS (slO 254 2 a3 g.length c3 (g.flatMap gcells) :: rP p st.dim a1 es1 c1 a1' is1 c1' m :: roM M1 :: L) a5 es.length 2 (es.flatMap EV.cells) := (hs5.mono hl1).rd
      obtain ⟨b, oo, hia, hr⟩ := RdS.elem (g := EV.cells) (fun _ => rfl) hrs he rfl
      clear hrs
      rw [hia]
      refine Q.r ?_; (repeat (intro b1; refine Q.r ?_))
      refine S.cr rfl (RChSweep_spec e.a e.c e.vs m _ hoe.1.rd (by omega) hco.1) ?_
      rintro _ _ ⟨a4, c4, a6, c6, rfl, rfl⟩
      obtain ⟨nn, hnn⟩ : ∃ nn, nn = cutN (e.vs.map OV.abs) m := ⟨_, rfl⟩
      have hnl : nn ≤ e.vs.length := by rw [hnn]; have := cut_le (e.vs.map OV.abs) m; simpa using this
      rw [← hnn]
      refine opsS_addr a6 (fun ha6 => ?_)
      refine opsS_abs a4 (fun M2 hl2 hs4 => ?_)
      refine Q.r ?_; (repeat (intro b1; refine Q.r ?_))
      obtain ⟨gi, hgi⟩ : ∃ gi, gi = (e.vs.take nn).map (·.id) := ⟨_, rfl⟩
      have hgil : gi.length ≤ n := by rw [hgi, List.length_map, List.length_take]; omega
      rw [← hgi] at ha6 ⊢
      refine swp_cutB (σ := Option Addr × Nat) (fun u => [(0, ptrV p), (1, .int .u64 m), (7, .pointer (some ⟨b1, 0, none⟩)), (8, .slice a4 (e.vs.drop nn).length c4), (33, .slice (some ⟨b, oo, none⟩) es.length c5), (34, .int .i64 es.length), (5, .slice u.1 (g ++ gi.map fun x => (e.id, x)).length u.2), (35, .int .i64 k)])
        (fun u => rP p st.dim a1 es1 c1 a1' is1 c1' m :: roM M2 :: slO 254 2 u.1 (g ++ gi.map fun x => (e.id, x)).length u.2 ((g ++ gi.map fun x => (e.id, x)).flatMap gcells) :: pt b1 (cl e.cells 173) :: L) (fun _ => True) ?_ ?_
      · refine swp_loop (σ := Nat × Option Addr × Nat × GL) (fun u => [(0, ptrV p), (1, .int .u64 m), (7, .pointer (some ⟨b1, 0, none⟩)), (8, .slice a4 (e.vs.drop nn).length c4), (33, .slice (some ⟨b, oo, none⟩) es.length c5), (34, .int .i64 es.length), (46, .slice a6 gi.length c6), (47, .int .i64 gi.length), (5, .slice u.2.1 u.2.2.2.length u.2.2.1), (35, .int .i64 k), (48, .int .i64 u.1)])
          (fun u => slO 30 1 a6 gi.length c6 (gi.map U64) :: slO 254 2 u.2.1 u.2.2.2.length u.2.2.1 (u.2.2.2.flatMap gcells) :: pt b1 (cl e.cells 173) :: rP p st.dim a1 es1 c1 a1' is1 c1' m :: roM M2 :: L)
          (fun u => u.1 ≤ gi.length ∧ u.2.2.2 = g ++ (gi.take u.1).map fun x => (e.id, x)) (fun u => gi.length - u.1) (0, a3, c3, g) ⟨rfl, rfl, rfl, rfl, rfl, rfl, rfl, rfl, rfl, rfl, rfl, trivial⟩ (by (try dsimp only); repeat (first | exact Ent.refl _ | exact Ent.nil | refine Ent.pick ?_ | refine Ent.nilS ?_ | refine Ent.nilM ?_ | refine Ent.drop ?_)) ⟨by dsimp only; omega, by simp⟩ ?_
        rintro ⟨j, a7, c7, g7⟩ ⟨hj, hg7⟩
        dsimp only at hj hg7 ⊢
        have hg7l : g7.length = g.length + min j gi.length := by rw [hg7]; simp
        by_cases hjl : j < gi.length
        · obtain ⟨w, hwj⟩ := mem_get hjl
          rcases ha6 with ha6 | ⟨b6, rfl⟩
          · omega
          have hrs : RdS (slO 30 1 (some ⟨b6, 0, none⟩) gi.length c6 (gi.map U64) :: slO 254 2 a7 g7.length c7 (g7.flatMap gcells) :: pt b1 (cl e.cells 173) :: rP p st.dim a1 es1 c1 a1' is1 c1' m :: roM M2 :: L) (some ⟨b6, 0, none⟩) gi.length 1 (gi.flatMap cU) := by
            rw [flat_U]; exact RdS.ofS (by simp) (.inr ⟨b6, rfl⟩)
          obtain ⟨b', o', hbo, hr6⟩ := RdS.elem (g := cU) (fun _ => rfl) hrs hwj rfl
          cases hbo
          clear hrs
          refine Q.r ?_; (repeat (intro b1; refine Q.r ?_))
          refine S.app rfl rfl (SrcS.sl RdC.row (by rfl) (by rfl)) (by rfl) (by omega) (by omega) (fun a8 c8 => ?_)
          refine Q.r ?_; (repeat (intro b1; refine Q.r ?_))
          refine ⟨(j + 1, a8, c8, g7 ++ [(e.id, w)]), ⟨rfl, rfl, rfl, rfl, rfl, rfl, rfl, rfl, congrArg some (by simp), rfl, rfl, trivial⟩, ?_, ⟨by dsimp only; omega, ?_⟩, by dsimp only; omega⟩
          · dsimp only
            rw [len_snoc, flat_snoc]
            repeat (first | exact Ent.refl _ | exact Ent.nil | refine Ent.pick ?_ | refine Ent.nilS ?_ | refine Ent.nilM ?_ | refine Ent.drop ?_)
          · dsimp only
            rw [hg7, take_snoc hwj, List.map_append, List.append_assoc]; rfl
        · have hje : j = gi.length := by omega
          subst hje
          rw [List.take_length] at hg7
          subst hg7
          refine Q.r ?_; (repeat (intro b1; refine Q.r ?_))
          exact ⟨(a7, c7), ⟨rfl, rfl, rfl, rfl, rfl, rfl, rfl, rfl, trivial⟩, by repeat (first | exact Ent.refl _ | exact Ent.nil | refine Ent.pick ?_ | refine Ent.nilS ?_ | refine Ent.nilM ?_ | refine Ent.drop ?_), trivial⟩
      rintro ⟨a7, c7⟩ -
      dsimp only
      have hgg : ((g ++ gi.map fun x => (e.id, x)) : GL).length ≤ (k + 1) * 10000 := by
        rw [List.length_append, List.length_map]; omega
      have hsw : (sw1 m (((swIds st.ch).take k).foldl (sw1 m) (st.ch, [])) e.id).2 = g ++ gi.map fun x => (e.id, x) := by
        rw [sw1_g hcv, ← hnn, ← hg, hgi, ← List.map_take, List.map_map, List.map_map]; rfl
      have hkd : ((e.vs.map OV.abs).drop nn).length = (e.vs.drop nn).length := by simp
      refine Q.r ?_; (repeat (intro b1; refine Q.r ?_))
      by_cases h0 : (e.vs.drop nn).length = 0
      · rw [h0]
        refine S.cr rfl (RSet0_spec p st.dim a1 es1 c1 a1' is1 c1' m e.id a4 c4 M2 _ (hok1.sE.mono hl2) (by omega)) ?_
        rintro _ _ ⟨a9, c9, rfl, rfl⟩
        refine opsS_cap a9 fun hc9 => opsS_abs a9 fun M3 hl3 hs9 => ?_
        have hun := hok1.unset (hl2.trans hl3) e.id hs9 hc9
        have hfl := List.length_filter_le (fun x : EV => !decide (x.id = e.id)) es1
        refine Q.r ?_; (repeat (intro b1; refine Q.r ?_))
        refine ⟨(k + 1, a7, c7, g ++ gi.map (fun x => (e.id, x)), ⟨a9, c9, es1.filter fun x => !decide (x.id = e.id), a1', c1', is1, M3⟩), ⟨rfl, rfl, rfl, rfl, rfl, rfl, trivial⟩, ?_, ⟨by dsimp only; omega, hgg, hl1.trans (hl2.trans hl3), by dsimp only; omega, ?_, ?_⟩, by dsimp only; omega⟩
        · dsimp only
          repeat (first | exact Ent.refl _ | exact Ent.nil | refine Ent.pick ?_ | refine Ent.nilS ?_ | refine Ent.nilM ?_ | refine Ent.drop ?_)
        · dsimp only
          rw [hstep, hsw]
        · dsimp only
          rw [hstep]
          have : (sw1 m (((swIds st.ch).take k).foldl (sw1 m) (st.ch, [])) e.id).1 = delL (((swIds st.ch).take k).foldl (sw1 m) (st.ch, [])).1 e.id := sw1_d hcv (by rw [← hnn, hkd]; exact h0)
          rw [this]
          exact hun
      · obtain ⟨nw, hnw⟩ : ∃ nw : EV, nw = ⟨e.id, a4, c4, e.vs.drop nn⟩ := ⟨_, rfl⟩
        have hSet := fun A => RSet_spec p st.dim a1 es1 c1 a1' is1 c1' m nw M2 A (hok1.sE.mono hl2) (by omega) hok1.cs (by rw [hnw]; dsimp only; omega)
        have hn1 : nw.id = e.id := by rw [hnw]
        have hn2 : nw.a = a4 := by rw [hnw]
        have hn3 : nw.c = c4 := by rw [hnw]
        have hn4 : nw.vs = e.vs.drop nn := by rw [hnw]
        rw [hn1, hn2, hn3, hn4] at hSet
        refine S.cr rfl (hSet _) ?_
        rintro _ _ ⟨a9, c9, rfl, rfl⟩
        refine opsS_cap a9 fun hc9 => opsS_abs a9 fun M3 hl3 hs9 => ?_
        have hput := hok1.put (hl2.trans hl3) (nw := nw) (by rw [hnw]; exact ⟨hs4.mono hl3, fun u hu => (hoe.2 u (List.mem_of_mem_drop hu)).mono (hl2.trans hl3)⟩) hs9 hc9
        have hil2 := insE_len es1 nw
        refine Q.r ?_; (repeat (intro b1; refine Q.r ?_))
        refine ⟨(k + 1, a7, c7, g ++ gi.map (fun x => (e.id, x)), ⟨a9, c9, insE es1 nw, a1', c1', is1, M3⟩), ⟨rfl, rfl, rfl, rfl, rfl, rfl, trivial⟩, ?_, ⟨by dsimp only; omega, hgg, hl1.trans (hl2.trans hl3), by dsimp only; omega, ?_, ?_⟩, by dsimp only; omega⟩
        · dsimp only
          repeat (first | exact Ent.refl _ | exact Ent.nil | refine Ent.pick ?_ | refine Ent.nilS ?_ | refine Ent.nilM ?_ | refine Ent.drop ?_)
        · dsimp only
          rw [hstep, hsw]
        · dsimp only
          rw [hstep]
          have : (sw1 m (((swIds st.ch).take k).foldl (sw1 m) (st.ch, [])) e.id).1 = putL (((swIds st.ch).take k).foldl (sw1 m) (st.ch, [])).1 nw.id (nw.vs.map OV.abs) := by
            rw [sw1_p hcv (by rw [← hnn, hkd]; exact h0), ← hnn, hn1, hn4, List.map_drop]
          rw [this]
          exact hput
    · have hke : k = es.length := by omega
      subst hke
      have hlen : es.length = (swIds st.ch).length := by rw [hids]; simp
      rw [hlen, List.take_length] at hok1 hg
      rw [show (swF m (swIds st.ch) st.ch).2 = g from hg.symm]
      refine Q.r ?_; (repeat (intro b1; refine Q.r ?_))
      exact ⟨(a3, c3), ⟨rfl, trivial⟩, Ent.cons (ref_shut hok1), trivial⟩
  rintro ⟨a3, c3⟩ -
  dsimp only
  refine Q.r ?_; (repeat (intro b1; refine Q.r ?_))
  exact N.r1 (RV.tmp rfl RV.nil) (Ent.refl _) ⟨a3, c3, rfl, rfl⟩
end Go.Proofs.YtjidejcehmamkaaGreatDoor
namespace Go.Proofs.YtjidejcehmamkaaGreatDoor
open Go Go.SX
attribute [local irreducible] swp opsS thenS blockS retS CallsS St Ent YieldS anyS drawS
structure DV where
  d : Int
  txn : Int
  after : Int
  a : Option Addr
  c : Nat
  ops : List OV
  stamp : Int
  ask : Int
  id : Int
  ia : Option Addr
  ic : Nat
  ids : List Int
abbrev DV.cells (o : DV) : List Value := [.int .u8 o.d, .int .u64 o.txn, .int .u64 o.after, .slice o.a o.ops.length o.c, .int .u64 o.stamp, .int .u64 o.ask, .int .u64 o.id, .slice o.ia o.ids.length o.ic]
abbrev DV.val (o : DV) : Value := .agg #[.int .u8 o.d, .int .u64 o.txn, .int .u64 o.after, .slice o.a o.ops.length o.c, .int .u64 o.stamp, .int .u64 o.ask, .int .u64 o.id, .slice o.ia o.ids.length o.ic]
end Go.Proofs.YtjidejcehmamkaaGreatDoor
namespace Go.Proofs.YtjidejcehmamkaaGreatDoor
open Go Go.SX
attribute [local irreducible] swp opsS thenS blockS retS CallsS St Ent YieldS anyS drawS
structure WFK (st : VS) (n : Nat) : Prop where
  wf : WF st n
  k1 : keysOK st.ch
  k2 : keysOK st.its
theorem WF.mono {st : VS} {n m : Nat} (h : WF st n) (hm : n ≤ m) : WF st m :=
  ⟨h.d1, h.d2, by have := h.il; omega, h.io, by have := h.cl; omega, fun c hc => ⟨(h.co c hc).1, by have := (h.co c hc).2.1; omega, (h.co c hc).2.2⟩⟩
theorem WFK.mono {st : VS} {n m : Nat} (h : WFK st n) (hm : n ≤ m) : WFK st m := ⟨h.wf.mono hm, h.k1, h.k2⟩
theorem WFK.free {st : VS} {n : Nat} (h : WFK st n) (t : Int) : WFK { st with its := delL st.its t } n :=
  ⟨⟨h.wf.d1, h.wf.d2, by have := h.wf.il; have e := List.length_filter_le (fun u : Int × Int × VL => !decide (u.1 = t)) st.its; exact Nat.le_trans e this, fun i hi => h.wf.io i (List.mem_filter.1 hi).1, h.wf.cl, h.wf.co⟩, h.k1, delL_ok h.k2 t⟩
theorem applyC_mem {s : Int} {c : Int × VL} : ∀ {ops : VL} {ch : List (Int × VL)}, keysOK ch → (ops.map (·.1)).Nodup → c ∈ applyC s ch ops → c ∈ ch ∨ ∃ o ∈ ops, c = (o.1, chV ch o.1 ++ [(s, o.2)])
  | [], _, _, _, h => .inl h
  | o :: ops, ch, hk, hn, h => by
    simp only [List.map_cons, List.nodup_cons] at hn
    have hput : ∀ c ∈ putC s ch o, c ∈ ch ∨ c = (o.1, chV ch o.1 ++ [(s, o.2)]) := fun c hc => by
      unfold putC at hc
      rcases keyCase ch hk o.1 with ⟨p, b, q, rfl, hp, hq⟩ | hno
      · rw [putL_mid hp hq] at hc
        rcases List.mem_append.1 hc with hc | hc
        · exact .inl (List.mem_append_left _ hc)
        rcases List.mem_cons.1 hc with hc | hc
        · exact .inr hc
        · exact .inl (List.mem_append_right _ (List.mem_cons_of_mem _ hc))
      · rw [putL_none hno] at hc
        rcases List.mem_append.1 hc with hc | hc
        · exact .inl hc
        · exact .inr (List.mem_singleton.1 hc)
    rcases applyC_mem (s := s) (ops := ops) (putL_ok' hk s o) hn.2 h with h | ⟨o', ho', h⟩
    · rcases hput c h with h | h
      · exact .inl h
      · exact .inr ⟨o, by simp, h⟩
    · refine .inr ⟨o', List.mem_cons_of_mem _ ho', ?_⟩
      have hne : o'.1 ≠ o.1 := fun e => hn.1 (by rw [← e]; exact List.mem_map_of_mem ho')
      have : chV (putC s ch o) o'.1 = chV ch o'.1 := by
        unfold chV putC
        rw [lkL_put hk, if_neg hne]
      rw [h, this]
theorem WFK.apply {st : VS} {n : Nat} (h : WFK st n) (t s : Int) : WFK (applyS st t s) (n + 1) := by
  unfold applyS
  cases hl : lkL st.its t with
  | none => exact h.mono (by omega)
  | some i =>
    dsimp only
    by_cases hE : applyE st t s = 0
    · rw [if_pos hE]
      have hio := h.wf.io _ (lk_memL hl)
      dsimp only at hio
      have hany : ∀ o ∈ i.2, ¬ s ≤ lastS (chV st.ch o.1) := by
        unfold applyE at hE
        rw [hl] at hE
        dsimp only at hE
        by_cases h1 : s = 0 ∨ 1099511627776 < s ∨ s ≤ i.1
        · rw [if_pos h1] at hE; cases hE
        rw [if_neg h1] at hE
        by_cases h2 : (i.2.any fun o => decide (s ≤ lastS (chV st.ch o.1))) = true
        · rw [if_pos h2] at hE; cases hE
        · intro o ho hh
          exact h2 (List.any_eq_true.2 ⟨o, ho, decide_eq_true hh⟩)
      refine ⟨⟨h.wf.d1, h.wf.d2, ?_, fun j hj => h.wf.io j (List.mem_filter.1 hj).1, ?_, fun c hc => ?_⟩, applyC_ok h.k1, delL_ok h.k2 t⟩
      · have e := List.length_filter_le (fun u : Int × Int × VL => !decide (u.1 = t)) st.its
        have := h.wf.il
        have e2 : (delL st.its t).length ≤ st.its.length := e
        dsimp only; omega
      · have e := applyC_len (s := s) (ops := i.2) h.k1
        have := h.wf.cl
        dsimp only; omega
      · rcases applyC_mem h.k1 hio.2.1 hc with hc | ⟨o, ho, rfl⟩
        · have := h.wf.co c hc
          exact ⟨this.1, by omega, this.2.2⟩
        · have hcv : sortedV (chV st.ch o.1) ∧ (chV st.ch o.1).length ≤ n ∧ ∀ v ∈ chV st.ch o.1, v.2.length ≤ 8 := by
            unfold chV
            cases hz : lkL st.ch o.1 with
            | none => exact ⟨List.Pairwise.nil, Nat.zero_le _, by simp⟩
            | some w => exact h.wf.co _ (lk_memL hz)
          have hla := sorted_last hcv.1
          have hs := hany o ho
          refine ⟨?_, by simp; omega, fun v hv => ?_⟩
          · unfold sortedV at hcv ⊢
            rw [List.map_append, List.pairwise_append]
            refine ⟨hcv.1, by simp, fun x hx y hy => ?_⟩
            obtain ⟨w, hw, rfl⟩ := List.mem_map.1 hx
            simp at hy
            subst hy
            have := hla w hw
            omega
          · rcases List.mem_append.1 hv with hv | hv
            · exact hcv.2.2 v hv
            · obtain rfl := List.mem_singleton.1 hv
              exact (hio.2.2 o ho).1
    · rw [if_neg hE]; exact h.mono (by omega)
theorem WFK.lock {st : VS} {n : Nat} (h : WFK st n) (t a : Int) (ops : VL) : WFK (lockS st t a ops) (n + 1) := by
  unfold lockS
  by_cases hE : lockE st t a ops = 0
  · rw [if_pos hE]
    unfold lockE at hE
    by_cases h1 : 1099511627776 < a
    · rw [if_pos h1] at hE; cases hE
    rw [if_neg h1] at hE
    by_cases h2 : checkV st.dim ops ≠ 0
    · rw [if_pos h2] at hE; exact absurd hE h2
    rw [if_neg h2] at hE
    have h2' : checkV st.dim ops = 0 := Decidable.not_not.1 h2
    by_cases h3 : (lkL st.its t).isSome = true
    · rw [if_pos h3] at hE; cases hE
    obtain ⟨_, _, c1, c2, c3, c4⟩ := check_ok h2'
    have hno : lkL st.its t = none := by
      cases hz : lkL st.its t with
      | none => rfl
      | some w => rw [hz] at h3; exact absurd rfl h3
    refine ⟨⟨h.wf.d1, h.wf.d2, ?_, fun i hi => ?_, by have := h.wf.cl; dsimp only; omega, fun c hc => ?_⟩, h.k1, keys_snoc h.k2 _ hno⟩
    · have := h.wf.il
      simp; omega
    · rcases List.mem_append.1 hi with hi | hi
      · exact h.wf.io i hi
      · obtain rfl := List.mem_singleton.1 hi
        exact ⟨c2, c3, c4⟩
    · have := h.wf.co c hc
      exact ⟨this.1, by omega, this.2.2⟩
  · rw [if_neg hE]; exact h.mono (by omega)
theorem sw1_keep {s : Int} {n b : Nat} {u : List (Int × VL) × GL} (hk : keysOK u.1) (hl : u.1.length ≤ b) (hco : ∀ c ∈ u.1, sortedV c.2 ∧ c.2.length ≤ n ∧ ∀ v ∈ c.2, v.2.length ≤ 8) (id : Int) :
    (sw1 s u id).1.length ≤ b ∧ ∀ c ∈ (sw1 s u id).1, sortedV c.2 ∧ c.2.length ≤ n ∧ ∀ v ∈ c.2, v.2.length ≤ 8 := by
  unfold sw1
  dsimp only
  by_cases h0 : ((chV u.1 id).drop (cutN (chV u.1 id) s)).length = 0
  · rw [if_pos h0]
    refine ⟨Nat.le_trans (List.length_filter_le (fun x : Int × VL => !decide (x.1 = id)) u.1) hl, fun c hc => hco c (List.mem_filter.1 hc).1⟩
  · rw [if_neg h0]
    generalize cutN (chV u.1 id) s = k at h0 ⊢
    cases hz : lkL u.1 id with
    | none =>
      exfalso
      apply h0
      unfold chV
      rw [hz]; simp
    | some vs =>
      have hcv : chV u.1 id = vs := by unfold chV; rw [hz]; rfl
      have hm := hco _ (lk_memL hz)
      rw [hcv]
      rcases keyCase u.1 hk id with ⟨p, w, q, e, hp, hq⟩ | hno
      · rw [e, putL_mid hp hq]
        refine ⟨by rw [e] at hl; simpa using hl, fun c hc => ?_⟩
        have hsub : ∀ c, c ∈ p ∨ c ∈ q → sortedV c.2 ∧ c.2.length ≤ n ∧ ∀ v ∈ c.2, v.2.length ≤ 8 := fun c hc => hco c (by
          rw [e]
          rcases hc with hc | hc
          · exact List.mem_append_left _ hc
          · exact List.mem_append_right _ (List.mem_cons_of_mem _ hc))
        rcases List.mem_append.1 hc with hc | hc
        · exact hsub c (.inl hc)
        rcases List.mem_cons.1 hc with rfl | hc
        · refine ⟨?_, ?_, fun v hv => hm.2.2 v (List.mem_of_mem_drop hv)⟩
          · have := hm.1
            unfold sortedV at this ⊢
            rw [List.map_drop]
            exact this.sublist (List.drop_sublist _ _)
          · have := hm.2.1
            dsimp only at this ⊢
            rw [List.length_drop]; omega
        · exact hsub c (.inr hc)
      · rw [lkL_none hno] at hz; cases hz
theorem swF_keep {s : Int} {n b : Nat} : ∀ {ks : List Int} {u : List (Int × VL) × GL}, keysOK u.1 → u.1.length ≤ b → (∀ c ∈ u.1, sortedV c.2 ∧ c.2.length ≤ n ∧ ∀ v ∈ c.2, v.2.length ≤ 8) →
    (ks.foldl (sw1 s) u).1.length ≤ b ∧ ∀ c ∈ (ks.foldl (sw1 s) u).1, sortedV c.2 ∧ c.2.length ≤ n ∧ ∀ v ∈ c.2, v.2.length ≤ 8
  | [], _, _, hl, hc => ⟨hl, hc⟩
  | k :: ks, u, hk, hl, hc => by
    have := sw1_keep (s := s) hk hl hc k
    exact swF_keep (ks := ks) (sw1_ok hk k) this.1 this.2
theorem WFK.sweep {st : VS} {n : Nat} (h : WFK st n) (s : Int) : WFK (sweepS st s) n := by
  unfold sweepS
  by_cases h1 : min s 1099511627776 ≤ st.mark
  · rw [if_pos h1]; exact h
  · rw [if_neg h1]
    have hk := swF_keep (s := min s 1099511627776) (n := n) (b := 16 * n) (ks := swIds st.ch) (u := (st.ch, [])) h.k1 h.wf.cl h.wf.co
    exact ⟨⟨h.wf.d1, h.wf.d2, h.wf.il, h.wf.io, hk.1, hk.2⟩, swF_ok (u := (st.ch, [])) h.k1, h.k2⟩
end Go.Proofs.YtjidejcehmamkaaGreatDoor
