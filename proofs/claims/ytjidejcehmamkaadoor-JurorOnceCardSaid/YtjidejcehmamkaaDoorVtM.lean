/- (Without the document's vault.) Lemmas on maps, ops, slices. No condition. -/
import Derived.Test.YtjidejcehmamkaaDoorVtI
import Derived.Test.YtjidejcehmamkaaDoorSxU
set_option linter.unusedVariables false
set_option linter.unusedSimpArgs false
namespace Go.Proofs.YtjidejcehmamkaaDoor
open Go Go.SX
attribute [local irreducible] swp opsS thenS blockS retS CallsS St Ent YieldS anyS drawS
structure EV where
  id : Int
  a : Option Addr
  c : Nat
  vs : List OV
abbrev EV.cells (e : EV) : List Value := [.int .u64 e.id, .slice e.a e.vs.length e.c]
abbrev EV.abs (e : EV) : Int × VL := (e.id, e.vs.map OV.abs)
def okE (M : Nat → Option Obj) (e : EV) : Prop := SlM M e.a e.vs.length 2 (e.vs.flatMap OV.cells) ∧ okR M e.vs
theorem okE.mono {M M' : Nat → Option Obj} {e : EV} (h : okE M e) (hl : leM M M') : okE M' e := ⟨h.1.mono hl, fun o ho => (h.2 o ho).mono hl⟩
theorem flat_take {α : Type} {g : α → List Value} {sz : Nat} (hg : ∀ x, (g x).length = sz) : ∀ (l : List α) (k : Nat), (l.flatMap g).take (k * sz) = (l.take k).flatMap g
  | [], k => by simp
  | x :: l, 0 => by simp
  | x :: l, k + 1 => by
    rw [List.flatMap_cons, List.take_succ_cons, List.flatMap_cons, ← flat_take hg l k, Nat.add_mul, Nat.one_mul, Nat.add_comm, ← hg x, List.take_length_add_append]
theorem flat_drop {α : Type} {g : α → List Value} {sz : Nat} (hg : ∀ x, (g x).length = sz) : ∀ (l : List α) (k : Nat), (l.flatMap g).drop (k * sz) = (l.drop k).flatMap g
  | [], k => by simp
  | x :: l, 0 => by simp
  | x :: l, k + 1 => by
    rw [List.flatMap_cons, List.drop_succ_cons, ← flat_drop hg l k, Nat.add_mul, Nat.one_mul, Nat.add_comm, ← hg x, List.drop_length_add_append]
theorem IV_one (xs : List IV) : (xs.flatMap IV.cells).all (·.oneCell') = true := by simp [Value.oneCell']
theorem EV_one (xs : List EV) : (xs.flatMap EV.cells).all (·.oneCell') = true := by simp [Value.oneCell']
theorem erase_filter {α : Type} (key : α → Int) : ∀ {l : List α} {k : Nat} {i : α}, (l.map key).Pairwise (· < ·) → l[k]? = some i → l.eraseIdx k = l.filter fun j => !decide (key j = key i)
  | [], _, _, _, h => by simp at h
  | x :: l, 0, i, hs, h => by
    simp only [List.getElem?_cons_zero, Option.some.injEq] at h
    subst h
    rw [List.map_cons, List.pairwise_cons] at hs
    rw [List.eraseIdx_cons_zero, List.filter_cons]
    simp only [decide_true, Bool.not_true, Bool.false_eq_true, if_false]
    symm
    rw [List.filter_eq_self]
    intro y hy
    have := hs.1 (key y) (List.mem_map_of_mem hy)
    simp; omega
  | x :: l, k + 1, i, hs, h => by
    rw [List.getElem?_cons_succ] at h
    rw [List.map_cons, List.pairwise_cons] at hs
    have := hs.1 (key i) (List.mem_map_of_mem (List.mem_of_getElem? h))
    rw [List.eraseIdx_cons_succ, List.filter_cons, if_pos (by simp; omega), erase_filter key hs.2 h]
theorem lkL_iff {κ α : Type} [DecidableEq κ] {m : List (κ × α)} (h : keysOK m) {x : κ} {a : α} : lkL m x = some a ↔ (x, a) ∈ m := by
  refine ⟨lk_memL, fun hm => ?_⟩
  rcases keyCase m h x with ⟨p, b, q, rfl, hp, hq⟩ | hn
  · rw [lkL_mid hp]
    rcases List.mem_append.1 hm with hm | hm
    · exact absurd rfl (hp _ hm)
    rcases List.mem_cons.1 hm with hm | hm
    · cases hm; rfl
    · exact absurd rfl (hq _ hm)
  · exact absurd rfl (hn _ hm)
theorem keys_perm {κ α : Type} [DecidableEq κ] {m m' : List (κ × α)} (h : keysOK m) (hp : m'.Perm m) : keysOK m' := (hp.map (fun u : κ × α => u.1)).nodup_iff.2 h
theorem lkL_perm {κ α : Type} [DecidableEq κ] {m m' : List (κ × α)} (h : keysOK m) (hp : m'.Perm m) (x : κ) : lkL m' x = lkL m x := by
  apply Option.ext
  intro a
  rw [lkL_iff (keys_perm h hp), lkL_iff h, hp.mem_iff]
theorem pw_filter {α : Type} {key : α → Int} {l : List α} (h : (l.map key).Pairwise (· < ·)) (p : α → Bool) : ((l.filter p).map key).Pairwise (· < ·) := by
  rw [List.pairwise_map] at h ⊢
  exact h.filter p
theorem keys_snoc {κ α : Type} [DecidableEq κ] {m : List (κ × α)} (h : keysOK m) {x : κ} (a : α) (hx : lkL m x = none) : keysOK (m ++ [(x, a)]) := by
  have hn := lk_none' hx
  unfold keysOK
  rw [List.map_append, List.nodup_append]
  refine ⟨h, by simp, fun y hy z hz => ?_⟩
  simp at hz
  subst hz
  obtain ⟨u, hu, rfl⟩ := List.mem_map.1 hy
  exact hn u hu
theorem vecs_abs2 {L L0 : List HP} {M : Nat → Option Obj} [hp : PickM L M L0] : ∀ us : List OV, Ent (vecsH us :: L) (exH (fun M' => allH [pureH (leM M M' ∧ okR M' us ∧ ∀ o ∈ us, o.vec.length ≤ o.c), roM M']) :: L0) := by
  intro us
  induction us generalizing M L with
  | nil =>
    refine Ent.drop (hp.ent.trans ?_)
    refine Ent.trans ?_ (Ent.shut_ex M)
    refine Ent.trans ?_ Ent.shut_all
    exact Ent.shut_pure ⟨leM.refl M, fun o ho => by (cases ho), fun o ho => by (cases ho)⟩
  | cons o us ih =>
    have h1 : Ent (vecsH (o :: us) :: L) (slO 21 1 o.a o.vec.length o.c (o.vec.map I32) :: vecsH us :: L) := by
      unfold vecsH
      exact bodV_out' (p := []) (by simp)
    refine h1.trans (slO_cap.trans (Ent.pure fun hc => ?_))
    have hp2 : PickM (vecsH us :: L) M (vecsH us :: L0) := inferInstance
    refine (Ent.absorb (h := hp2)).trans ?_
    refine Ent.ex fun M1 => Ent.open_all.trans (Ent.pure fun hs => ?_)
    refine Ent.trans (Ent.perm (.swap _ _ _)) ?_
    refine (ih (M := M1) (L := roM M1 :: L0) (hp := inferInstance)).trans ?_
    refine Ent.ex fun M2 => Ent.open_all.trans (Ent.pure fun hs2 => ?_)
    refine Ent.trans ?_ (Ent.shut_ex M2)
    refine Ent.trans ?_ Ent.shut_all
    refine Ent.shut_pure ⟨hs.1.trans hs2.1, fun u hu => ?_, fun u hu => ?_⟩
    · rcases List.mem_cons.1 hu with rfl | hu
      · exact hs.2.mono hs2.1
      · exact hs2.2.1 u hu
    · rcases List.mem_cons.1 hu with rfl | hu
      · exact hc
      · exact hs2.2.2 u hu
theorem swp_absVc (us : List OV) {n : Nat} {cd : Code} {Q : Post} {f : Env} {L L0 L1 : List HP} {M : Nat → Option Obj} [h : Pick (vecsH us) L L0] [h1 : PickM L0 M L1] (hk : ∀ M', leM M M' → okR M' us → (∀ o ∈ us, o.vec.length ≤ o.c) → swp Tryd.prog n cd Q f (roM M' :: L1)) : swp Tryd.prog n cd Q f L :=
  swp_ent (h.ent.trans (vecs_abs2 us)) (swp_ex fun M' => swp_all (swp_pure fun hh => hk M' hh.1 hh.2.1 hh.2.2))
theorem few_id {k : Nat} {l : VL} (h : l.length ≤ k) (hv : ∀ o ∈ l, o.2.length ≤ 10) : fewV k l = l := by
  rw [fewV_all h]
  conv => rhs; rw [← List.map_id l]
  exact List.map_congr_left fun o ho => by rw [List.take_of_length_le (hv o ho)]; rfl
theorem check_ok {dim : Int} {ops : VL} (h : checkV dim ops = 0) : 1 ≤ dim ∧ dim ≤ 8 ∧ 1 ≤ ops.length ∧ ops.length ≤ 16 ∧ (ops.map (·.1)).Nodup ∧ ∀ o ∈ ops, o.2.length ≤ 8 ∧ (0 < o.2.length → rightV o.2 = true) := by
  unfold checkV at h
  by_cases h1 : dim < 1 ∨ 8 < dim
  · rw [if_pos h1] at h; cases h
  rw [if_neg h1] at h
  by_cases h3 : ops.length = 0
  · rw [if_pos h3] at h; cases h
  rw [if_neg h3] at h
  by_cases h4 : 16 < ops.length
  · rw [if_pos h4] at h; cases h
  rw [if_neg h4] at h
  by_cases h5 : ops.any (badO dim) = true
  · rw [if_pos h5] at h; cases h
  rw [if_neg h5] at h
  by_cases h6 : (ops.map (·.1)).Nodup
  · refine ⟨by omega, by omega, by omega, by omega, h6, fun o ho => ?_⟩
    have hb : badO dim o = false := by
      cases hb : badO dim o with
      | false => rfl
      | true => exact absurd (List.any_eq_true.2 ⟨o, ho, hb⟩) h5
    unfold badO at hb
    simp only [Bool.or_eq_false_iff, Bool.and_eq_false_iff, decide_eq_false_iff_not, Bool.not_eq_false', Decidable.not_not] at hb
    obtain ⟨_, hb⟩ := hb
    rcases hb with hb | hb
    · exact ⟨by omega, fun h => absurd h hb⟩
    · exact ⟨by omega, fun _ => hb.1⟩
  · rw [if_neg h6] at h; cases h
def subA (a : Option Addr) (c l sz : Nat) : Option Addr := if l = 0 then a else a.map fun ad => ⟨ad.block, if c = l then ad.off else ad.off + l * sz, ad.spot⟩
section
variable {P : Program} {n : Nat} {ops : List Oper} {f : Env} {A : List HP} {d : Tmp} {ty : TypeId} {pos : String} {af : Array Edge}
theorem Y.slFa {x lo : Operand} {t e : TypeId} {a : Option Addr} {m c sz bts l : Nat} {ag : Bool} {zs : List Value} {i : Int} {kl : IntKind} [hs : SlTy P t e] [h2 : Ty P e ag sz zs bts] (hx : ev f x = some (.slice a m c))
    (hl : ev f lo = some (.int kl i)) (el : i = (l : Int)) (h1 : l ≤ m) (ha : m = 0 ∨ ∃ b o, a = some ⟨b, o, none⟩) : YieldS P n ops ⟨some d, .slice t x (some lo) none none, ty, pos, af, none⟩ f A (.slice (subA a c l sz) (m - l) (c - l)) := by
  by_cases h0 : l = 0
  · subst h0
    unfold subA
    rw [if_pos rfl, Nat.sub_zero, Nat.sub_zero]
    cases a with
    | none =>
      rcases ha with rfl | ⟨b, o, h⟩
      · exact Y.slFn (hs := hs) (h2 := h2) hx hl el
      · cases h
    | some ad =>
      refine Y.of (fun ac w s => ?_)
      subst el
      have e1 : ∀ ad : Addr, ad.add 0 = ad := fun _ => rfl
      by_cases hc : c = 0 <;> simp [execOp, s.eval hx, s.eval hl, Instr.sliceAt, hs.und, Instr.slice, Instr.sliceBounds, h2.size, Instr.sliceBound, asIntOf, hc, e1]
  · rcases ha with rfl | ⟨b, o, rfl⟩
    · omega
    · unfold subA
      rw [if_neg h0]
      exact Y.slF (hs := hs) (h2 := h2) hx hl el h1
end
theorem RdS.fromA {L : List HP} {a : Option Addr} {m c l sz : Nat} {cs : List Value} (h : RdS L a m sz cs) (h1 : l ≤ m) (h2 : m ≤ c) : RdS L (subA a c l sz) (m - l) sz (cs.drop (l * sz)) := by
  by_cases h0 : l = 0
  · subst h0
    unfold subA
    rw [if_pos rfl, Nat.zero_mul, List.drop_zero]
    exact h
  · obtain ⟨b, o, rfl⟩ : ∃ b o, a = some ⟨b, o, none⟩ := by
      rcases h.2 with h3 | ⟨b, o, h3, _⟩
      · omega
      · exact ⟨b, o, h3⟩
    unfold subA
    rw [if_neg h0]
    exact RdS.from2 h h1 h2
theorem SlM.at {M : Nat → Option Obj} {a : Option Addr} {m sz : Nat} {cs : List Value} (h : SlM M a m sz cs) : m = 0 ∨ ∃ b o, a = some ⟨b, o, none⟩ := by
  have := h.rd (L := [roM M])
  rcases this.2 with h3 | ⟨b, o, h3, _⟩
  · exact .inl h3
  · exact .inr ⟨b, o, h3⟩
theorem keys_nodup {κ α : Type} [DecidableEq κ] {m : List (κ × α)} (h : keysOK m) : m.Nodup := by
  unfold keysOK at h
  rw [List.nodup_iff_pairwise_ne, List.pairwise_map] at h
  rw [List.nodup_iff_pairwise_ne]
  exact h.imp fun h1 h2 => h1 (by rw [h2])
theorem keys_of_lt {m : List (Int × VL)} (h : (m.map (·.1)).Pairwise (· < ·)) : keysOK m := by
  unfold keysOK
  rw [List.nodup_iff_pairwise_ne]
  exact h.imp fun h1 h2 => by omega
theorem sorted_last {vs : VL} (h : sortedV vs) : ∀ v ∈ vs, v.1 ≤ lastS vs := by
  intro v hv
  unfold lastS
  cases hg : vs.getLast? with
  | none => rw [List.getLast?_eq_none_iff] at hg; subst hg; cases hv
  | some l =>
    rw [List.getLast?_eq_some_iff] at hg
    obtain ⟨p, rfl⟩ := hg
    unfold sortedV at h
    rw [List.map_append, List.pairwise_append] at h
    rcases List.mem_append.1 hv with hv | hv
    · have := h.2.2 v.1 (List.mem_map_of_mem hv) l.1 (by simp)
      simp; omega
    · obtain rfl := List.mem_singleton.1 hv
      simp
end Go.Proofs.YtjidejcehmamkaaDoor
