/- The vault: Apply, Free. No condition. -/
import Derived.Test.YtjidejcehmamkaaDoorVtC
set_option linter.unusedVariables false
set_option linter.unusedSimpArgs false
namespace Go.Proofs.YtjidejcehmamkaaDoor
open Go Go.SX
attribute [local irreducible] swp opsS thenS blockS retS CallsS St Ent YieldS anyS drawS
def chV (ch : List (Int × VL)) (id : Int) : VL := (lkL ch id).getD []
def putC (s : Int) (ch : List (Int × VL)) (o : Int × List Int) : List (Int × VL) := putL ch o.1 (chV ch o.1 ++ [(s, o.2)])
def applyC (s : Int) (ch : List (Int × VL)) (ops : VL) : List (Int × VL) := ops.foldl (putC s) ch
def applyE (st : VS) (txn s : Int) : Int :=
  match lkL st.its txn with
  | none => if s = 0 ∨ 1099511627776 < s then 1 else 6
  | some i => if s = 0 ∨ 1099511627776 < s ∨ s ≤ i.1 then 1 else if i.2.any fun o => decide (s ≤ lastS (chV st.ch o.1)) then 7 else if s ≤ st.mark then 12 else 0
def applyS (st : VS) (txn s : Int) : VS :=
  match lkL st.its txn with
  | none => st
  | some i => if applyE st txn s = 0 then { st with ch := applyC s st.ch i.2, its := delL st.its txn } else st
structure WF (st : VS) (n : Nat) : Prop where
  d1 : 1 ≤ st.dim
  d2 : st.dim ≤ 8
  il : st.its.length ≤ n
  io : ∀ i ∈ st.its, i.2.2.length ≤ 16 ∧ (i.2.2.map (·.1)).Nodup ∧ ∀ o ∈ i.2.2, o.2.length ≤ 8 ∧ (0 < o.2.length → rightV o.2 = true)
  cl : st.ch.length ≤ 16 * n
  co : ∀ c ∈ st.ch, sortedV c.2 ∧ c.2.length ≤ n ∧ ∀ v ∈ c.2, v.2.length ≤ 8
theorem WF.ops {st : VS} {n : Nat} (h : WF st n) : opsLe st := fun i hi => by have := (h.io i hi).1; omega
theorem lk_memL {κ α : Type} [DecidableEq κ] {m : List (κ × α)} {x : κ} {a : α} (h : lkL m x = some a) : (x, a) ∈ m := by
  unfold lkL at h
  obtain ⟨p, hp, hx⟩ := Option.map_eq_some_iff.1 h
  have h1 := List.mem_of_find?_eq_some hp
  have h2 := List.find?_some hp
  have h3 : p.1 = x := by simpa using h2
  subst hx h3
  exact h1
theorem cr_case (cs : List CR) (hk : keysOK (cs.map fun c => (c.1, c.2.2))) (id : Int) :
    (∃ p q b vs, cs = p ++ (id, b, vs) :: q ∧ lkL (cs.map fun c => (c.1, c.2.1)) id = some b ∧ lkL (cs.map fun c => (c.1, c.2.2)) id = some vs ∧ (∀ u ∈ p, u.1 ≠ id) ∧ ∀ u ∈ q, u.1 ≠ id) ∨
    (lkL (cs.map fun c => (c.1, c.2.1)) id = none ∧ lkL (cs.map fun c => (c.1, c.2.2)) id = none ∧ ∀ u ∈ cs, u.1 ≠ id) := by
  rcases keyCase cs (show keysOK cs by unfold keysOK at *; rw [List.map_map] at hk; exact hk) id with ⟨p, x, q, rfl, hp, hq⟩ | hn
  · obtain ⟨b, vs⟩ := x
    refine .inl ⟨p, q, b, vs, rfl, ?_, ?_, hp, hq⟩
    · rw [List.map_append, List.map_cons]
      exact lkL_mid fun u hu => by obtain ⟨w, hw, rfl⟩ := List.mem_map.1 hu; exact hp w hw
    · rw [List.map_append, List.map_cons]
      exact lkL_mid fun u hu => by obtain ⟨w, hw, rfl⟩ := List.mem_map.1 hu; exact hp w hw
  · exact .inr ⟨lkL_none fun u hu => by obtain ⟨w, hw, rfl⟩ := List.mem_map.1 hu; exact hn w hw, lkL_none fun u hu => by obtain ⟨w, hw, rfl⟩ := List.mem_map.1 hu; exact hn w hw, hn⟩
theorem del_map (is : List IV) (t : Int) : delL (is.map fun i => (i.txn, i)) t = (is.filter fun i => !decide (i.txn = t)).map fun i => (i.txn, i) := by
  unfold delL; rw [List.filter_map]; rfl
theorem VOK.del {M : Nat → Option Obj} {st : VS} {cs : List CR} {is : List IV} (h : VOK M st cs is) (t : Int) : VOK M { st with its := delL st.its t } cs (is.filter fun i => !decide (i.txn = t)) :=
  ⟨h.ch, by rw [← h.its]; unfold delL; rw [List.filter_map]; rfl, fun i hi => h.ok i (List.mem_filter.1 hi).1, h.k1, delL_ok h.k2 t⟩
theorem Free_spec (v : Nat) (st : VS) (txn : Int) (L : List HP) :
    CallsS Tryd.prog 21 [ptrV v, .int .u64 txn] (vaultH v st :: L) (fun r L' => r = .int .i64 (if (lkL st.its txn).isSome then 0 else 6) ∧ L' = vaultH v { st with its := delL st.its txn } :: L) := by
  refine calls_vault fun mc mi M cs is hok => ?_
  have hlk := lk_its is txn
  rw [hok.its] at hlk
  refine CallsS.of_body Tryd.func21 rfl rfl rfl ?_
  refine Q.r ?_; (repeat (intro b1; refine Q.r ?_))
  refine S.y (Y.lk true rfl rfl (fun w => Tryd.zeroValue66 w)) ?_
  cases hx : lkL (is.map fun i => (i.txn, i)) txn with
  | none =>
    rw [hx] at hlk
    rw [hlk]
    dsimp only
    refine Q.r ?_; (repeat (intro b1; refine Q.r ?_))
    have e : delL st.its txn = st.its := delL_none (lk_none' hlk)
    rw [e]
    exact N.r1 (RV.tmp rfl RV.nil) (by refine Ent.trans ?_ (vault_shut (mc := mc) (mi := mi) hok); repeat (first | exact Ent.refl _ | exact Ent.nil | refine Ent.pick ?_ | refine Ent.nilS ?_ | refine Ent.nilM ?_ | refine Ent.drop ?_)) ⟨rfl, rfl⟩
  | some x =>
    rw [hx] at hlk
    rw [hlk]
    dsimp only
    refine Q.r ?_; (repeat (intro b1; refine Q.r ?_))
    refine S.dl rfl rfl ?_
    rw [del_map]
    refine Q.r ?_; (repeat (intro b1; refine Q.r ?_))
    exact N.r1 (RV.tmp rfl RV.nil) (by refine Ent.trans ?_ (vault_shut (mc := mc) (mi := mi) (hok.del txn)); repeat (first | exact Ent.refl _ | exact Ent.nil | refine Ent.pick ?_ | refine Ent.nilS ?_ | refine Ent.nilM ?_ | refine Ent.drop ?_)) ⟨rfl, rfl⟩
theorem applyS_ne {st : VS} {txn s : Int} (h : applyE st txn s ≠ 0) : applyS st txn s = st := by
  unfold applyS
  split
  · rfl
  · rw [if_neg h]
theorem putL_ok' {ch : List (Int × VL)} (h : keysOK ch) (s : Int) (o : Int × List Int) : keysOK (putC s ch o) := putL_ok h _ _
theorem applyC_ok {s : Int} : ∀ {ops : VL} {ch : List (Int × VL)}, keysOK ch → keysOK (applyC s ch ops)
  | [], _, h => h
  | o :: ops, _, h => applyC_ok (ops := ops) (putL_ok' h s o)
theorem applyC_snoc (s : Int) (ch : List (Int × VL)) (ops : VL) (o : Int × List Int) : applyC s ch (ops ++ [o]) = putC s (applyC s ch ops) o := List.foldl_append ..
theorem lk_apply {s : Int} {id : Int} : ∀ {ops : VL} {ch : List (Int × VL)}, keysOK ch → id ∉ ops.map (·.1) → lkL (applyC s ch ops) id = lkL ch id
  | [], _, _, _ => rfl
  | o :: ops, ch, h, hn => by
    simp only [List.map_cons, List.mem_cons, not_or] at hn
    have := lk_apply (s := s) (ops := ops) (putL_ok' h s o) hn.2
    show lkL (applyC s (putC s ch o) ops) id = _
    rw [this]
    unfold putC
    rw [lkL_put h, if_neg hn.1]
theorem applyC_len {s : Int} : ∀ {ops : VL} {ch : List (Int × VL)}, keysOK ch → (applyC s ch ops).length ≤ ch.length + ops.length
  | [], _, _ => Nat.le_refl _
  | o :: ops, ch, h => by
    have h1 := applyC_len (s := s) (ops := ops) (putL_ok' h s o)
    have h2 : (putC s ch o).length ≤ ch.length + 1 := by
      unfold putC
      rcases keyCase ch h o.1 with ⟨p, b, q, rfl, hp, hq⟩ | hn
      · rw [putL_mid hp hq]; simp
      · rw [putL_none hn]; simp
    show (applyC s (putC s ch o) ops).length ≤ _
    simp only [List.length_cons]
    omega
structure AtC (ch : List (Int × VL)) (id : Int) (p q : List CR) (b : Nat) (vs : VL) : Prop where
  hv : vs = chV ch id
  hp : ∀ u ∈ p, u.1 ≠ id
  hq : ∀ u ∈ q, u.1 ≠ id
  put : ∀ w, (p ++ (id, b, w) :: q).map (fun c => (c.1, c.2.2)) = putL ch id w
theorem AtC.some {p q : List CR} {id : Int} {b : Nat} {vs : VL} (hp : ∀ u ∈ p, u.1 ≠ id) (hq : ∀ u ∈ q, u.1 ≠ id) : AtC ((p ++ (id, b, vs) :: q).map fun c => (c.1, c.2.2)) id p q b vs := by
  have h1 : ∀ u ∈ p.map (fun c : CR => (c.1, c.2.2)), u.1 ≠ id := fun u hu => by obtain ⟨w, hw, rfl⟩ := List.mem_map.1 hu; exact hp w hw
  have h2 : ∀ u ∈ q.map (fun c : CR => (c.1, c.2.2)), u.1 ≠ id := fun u hu => by obtain ⟨w, hw, rfl⟩ := List.mem_map.1 hu; exact hq w hw
  refine ⟨?_, hp, hq, fun w => ?_⟩
  · unfold chV
    rw [List.map_append, List.map_cons, lkL_mid h1]; rfl
  · rw [List.map_append, List.map_append, List.map_cons, List.map_cons, putL_mid h1 h2]
theorem AtC.none {cs : List CR} {id : Int} {b : Nat} (hn : ∀ u ∈ cs, u.1 ≠ id) : AtC (cs.map fun c => (c.1, c.2.2)) id cs [] b [] := by
  have h1 : ∀ u ∈ cs.map (fun c : CR => (c.1, c.2.2)), u.1 ≠ id := fun u hu => by obtain ⟨w, hw, rfl⟩ := List.mem_map.1 hu; exact hn w hw
  refine ⟨?_, hn, by simp, fun w => ?_⟩
  · unfold chV
    rw [lkL_none h1]; rfl
  · rw [List.map_append, putL_none h1]; rfl
set_option maxHeartbeats 4000000 in
theorem Apply_spec (v : Nat) (st : VS) (n : Nat) (txn s : Int) (L : List HP) (hw : WF st n) (hn : n ≤ 10000) (hs0 : 0 ≤ s) :
    CallsS Tryd.prog 20 [ptrV v, .int .u64 txn, .int .u64 s] (vaultH v st :: L) (fun r L' => r = .int .i64 (applyE st txn s) ∧ L' = vaultH v (applyS st txn s) :: L) := by
  refine calls_vault fun mc mi M cs is hok => ?_
  have hlk := lk_its is txn
  rw [hok.its] at hlk
  refine CallsS.of_body Tryd.func20 rfl rfl rfl ?_
  refine Q.r ?_; (repeat (intro b1; refine Q.r ?_))
  refine S.y (Y.lk true rfl rfl (fun w => Tryd.zeroValue66 w)) ?_
  cases hx : lkL (is.map fun i => (i.txn, i)) txn with
  | none =>
    rw [hx, Option.map_none] at hlk
    have hE : applyE st txn s = if s = 0 ∨ 1099511627776 < s then 1 else 6 := by unfold applyE; rw [hlk]
    have hS : applyS st txn s = st := by unfold applyS; rw [hlk]
    rw [hE, hS]
    dsimp only
    by_cases h1 : s = 0 ∨ 1099511627776 < s
    · rw [if_pos h1]
      by_cases h1a : s = 0
      · refine Q.r ?_; (repeat (intro b1; refine Q.r ?_))
        exact N.r1 (RV.tmp rfl RV.nil) (by refine Ent.trans ?_ (vault_shut (mc := mc) (mi := mi) hok); repeat (first | exact Ent.refl _ | exact Ent.nil | refine Ent.pick ?_ | refine Ent.nilS ?_ | refine Ent.nilM ?_ | refine Ent.drop ?_)) ⟨rfl, rfl⟩
      · refine Q.r ?_; (repeat (intro b1; refine Q.r ?_))
        exact N.r1 (RV.tmp rfl RV.nil) (by refine Ent.trans ?_ (vault_shut (mc := mc) (mi := mi) hok); repeat (first | exact Ent.refl _ | exact Ent.nil | refine Ent.pick ?_ | refine Ent.nilS ?_ | refine Ent.nilM ?_ | refine Ent.drop ?_)) ⟨rfl, rfl⟩
    · rw [if_neg h1]
      refine Q.r ?_; (repeat (intro b1; refine Q.r ?_))
      exact N.r1 (RV.tmp rfl RV.nil) (by refine Ent.trans ?_ (vault_shut (mc := mc) (mi := mi) hok); repeat (first | exact Ent.refl _ | exact Ent.nil | refine Ent.pick ?_ | refine Ent.nilS ?_ | refine Ent.nilM ?_ | refine Ent.drop ?_)) ⟨rfl, rfl⟩
  | some x =>
    rw [hx, Option.map_some] at hlk
    obtain ⟨hmx, hxt⟩ := lk_mem hx
    have hox := hok.ok x hmx
    have hwx := hw.io x.abs (by rw [← hok.its]; exact List.mem_map_of_mem hmx)
    have hxl : x.ops.length ≤ 16 := by simpa using hwx.1
    have hE : applyE st txn s = if s = 0 ∨ 1099511627776 < s ∨ s ≤ x.after then 1 else if (x.ops.any fun o => decide (s ≤ lastS (chV st.ch o.id))) then 7 else if s ≤ st.mark then 12 else 0 := by unfold applyE; rw [hlk]; dsimp only; rw [List.any_map]; rfl
    have hS : applyE st txn s = 0 → applyS st txn s = { st with ch := applyC s st.ch (x.ops.map OV.abs), its := delL st.its txn } := fun h => by unfold applyS; rw [hlk]; dsimp only; rw [if_pos h]
    clear hlk
    dsimp only
    by_cases h1 : s = 0 ∨ 1099511627776 < s ∨ s ≤ x.after
    · rw [if_pos h1] at hE
      have hS' := applyS_ne (st := st) (txn := txn) (s := s) (by rw [hE]; decide)
      rw [hE, hS']
      by_cases h1a : s = 0
      · refine Q.r ?_; (repeat (intro b1; refine Q.r ?_))
        exact N.r1 (RV.tmp rfl RV.nil) (by refine Ent.trans ?_ (vault_shut (mc := mc) (mi := mi) hok); repeat (first | exact Ent.refl _ | exact Ent.nil | refine Ent.pick ?_ | refine Ent.nilS ?_ | refine Ent.nilM ?_ | refine Ent.drop ?_)) ⟨rfl, rfl⟩
      by_cases h1b : 1099511627776 < s
      · refine Q.r ?_; (repeat (intro b1; refine Q.r ?_))
        exact N.r1 (RV.tmp rfl RV.nil) (by refine Ent.trans ?_ (vault_shut (mc := mc) (mi := mi) hok); repeat (first | exact Ent.refl _ | exact Ent.nil | refine Ent.pick ?_ | refine Ent.nilS ?_ | refine Ent.nilM ?_ | refine Ent.drop ?_)) ⟨rfl, rfl⟩
      · have h1c : s ≤ x.after := by omega
        refine Q.r ?_; (repeat (intro b1; refine Q.r ?_))
        exact N.r1 (RV.tmp rfl RV.nil) (by refine Ent.trans ?_ (vault_shut (mc := mc) (mi := mi) hok); repeat (first | exact Ent.refl _ | exact Ent.nil | refine Ent.pick ?_ | refine Ent.nilS ?_ | refine Ent.nilM ?_ | refine Ent.drop ?_)) ⟨rfl, rfl⟩
    rw [if_neg h1] at hE
    refine Q.r ?_; (repeat (intro b1; refine Q.r ?_))
    refine swp_cutB (σ := Unit) (fun _ => [(0, ptrV v), (1, .int .u64 txn), (2, .int .u64 s), (7, .pointer (some ⟨b1, 0, none⟩))]) (fun _ => vP v mc mi st.dim st.mark :: vC mc cs :: vI mi is :: chsH M cs :: roM M :: pt b1 (cl x.cells 66) :: L) (fun _ => (x.ops.any fun o => decide (s ≤ lastS (chV st.ch o.id))) = false) ?_ ?_
    · refine swp_loop (σ := Nat) (fun k => [(0, ptrV v), (1, .int .u64 txn), (2, .int .u64 s), (7, .pointer (some ⟨b1, 0, none⟩)), (44, .slice x.a x.ops.length x.c), (45, .int .i64 x.ops.length), (46, .int .i64 k)]) (fun _ => vP v mc mi st.dim st.mark :: vC mc cs :: vI mi is :: chsH M cs :: roM M :: pt b1 (cl x.cells 66) :: L)
        (fun k => k ≤ x.ops.length ∧ (x.ops.take k).any (fun o => decide (s ≤ lastS (chV st.ch o.id))) = false) (fun k => x.ops.length - k) 0 ⟨rfl, rfl, rfl, rfl, rfl, rfl, rfl, trivial⟩ (by repeat (first | exact Ent.refl _ | exact Ent.nil | refine Ent.pick ?_ | refine Ent.nilS ?_ | refine Ent.nilM ?_ | refine Ent.drop ?_)) ⟨by omega, by simp⟩ ?_
      rintro k ⟨hk, hany⟩
      by_cases hlt : k < x.ops.length
      · obtain ⟨o, ho⟩ := mem_get hlt
        have hmo : o ∈ x.ops := List.mem_of_getElem? ho
        have hrx : RdO (vP v mc mi st.dim st.mark :: vC mc cs :: vI mi is :: chsH M cs :: roM M :: pt b1 (cl x.cells 66) :: L) x.a x.ops := hox.rd
        obtain ⟨b, oo, hia, hr⟩ := RdS.elem (g := OV.cells) (fun _ => rfl) hrx.1 ho rfl
        clear hrx
        rw [hia]
        refine Q.r ?_; (repeat (intro b1; refine Q.r ?_))
        rename_i bx
        rcases cr_case cs (by rw [hok.ch]; exact hok.k1) o.id with ⟨p, q, b2, vs, rfl, e1, e2, e3, e4⟩ | ⟨e1, e2, e3⟩
        · refine swp_ent (L' := pt b1 (cl o.cells 73) :: vP v mc mi st.dim st.mark :: vC mc (p ++ (o.id, b2, vs) :: q) :: chainH M b2 vs :: vI mi is :: chsH M (p ++ q) :: roM M :: pt bx (cl x.cells 66) :: L) ?_ ?_
          · refine Ent.pick (Ent.pick (Ent.pick ?_))
            refine Ent.trans (Ent.perm (.swap _ _ _)) ?_
            exact (chs_out (p := p) (q := q) (x := (o.id, b2, vs)) (M := M)).trans (Ent.cons (Ent.perm (.swap _ _ _)))
          refine Q.dgo [true, true, true, false, false, false, false, false] [7] [] [0, 1, 2, 3, 4, 5, 6, 8, 7, 9] ?_
          refine Q.rd ?_; (repeat (intro b1; refine Q.rd ?_))
          refine D.y rfl rfl rfl (by kernel_rfl) (Y.lk false rfl rfl (fun w => Tryd.zeroValue92 w)) ?_
          rw [e1]
          dsimp only
          have hvl : vs.length ≤ n := (hw.co (o.id, vs) (by rw [← hok.ch]; exact List.mem_map_of_mem (f := fun c : CR => (c.1, c.2.2)) (List.mem_append_right _ (List.mem_cons_self ..)))).2.1
          refine Q.rd ?_; (repeat (intro b1; refine Q.rd ?_))
          refine D.e rfl rfl rfl ?_
          refine S.cr rfl (ChLast_spec M b2 vs _ (by omega)) ?_
          rintro _ _ ⟨rfl, rfl⟩
          refine Q.r ?_; (repeat (intro b1; refine Q.r ?_))
          refine Q.rd ?_; (repeat (intro b1; refine Q.rd ?_))
          have hcv : chV st.ch o.id = vs := by unfold chV; rw [← hok.ch, e2]; rfl
          have hb : Ent (pt b1 (cl o.cells 73) :: vP v mc mi st.dim st.mark :: vC mc (p ++ (o.id, b2, vs) :: q) :: chainH M b2 vs :: vI mi is :: chsH M (p ++ q) :: roM M :: pt bx (cl x.cells 66) :: L) (vP v mc mi st.dim st.mark :: vC mc (p ++ (o.id, b2, vs) :: q) :: vI mi is :: chsH M (p ++ (o.id, b2, vs) :: q) :: roM M :: pt bx (cl x.cells 66) :: L) :=
            Ent.drop (Ent.cons (Ent.cons ((Ent.perm (.swap _ _ _)).trans (Ent.cons (chs_in (x := (o.id, b2, vs)))))))
          by_cases h7 : s ≤ lastS vs
          · rw [show (x.ops.any fun o => decide (s ≤ lastS (chV st.ch o.id))) = true from List.any_eq_true.2 ⟨o, hmo, by rw [hcv]; exact decide_eq_true h7⟩, if_pos rfl] at hE
            have hS' := applyS_ne (st := st) (txn := txn) (s := s) (by rw [hE]; decide)
            rw [hE, hS']
            refine Q.r ?_; (repeat (intro b1; refine Q.r ?_))
            refine N.r1 (RV.tmp rfl RV.nil) ?_ ⟨rfl, rfl⟩
            refine hb.trans ?_
            refine Ent.trans ?_ (vault_shut (mc := mc) (mi := mi) hok)
            repeat (first | exact Ent.refl _ | exact Ent.nil | refine Ent.pick ?_ | refine Ent.nilS ?_ | refine Ent.nilM ?_ | refine Ent.drop ?_)
          · refine Q.r ?_; (repeat (intro b1; refine Q.r ?_))
            refine ⟨k + 1, ⟨rfl, rfl, rfl, rfl, rfl, rfl, rfl, trivial⟩, hb, ⟨by omega, ?_⟩, by omega⟩
            rw [take_snoc ho, List.any_append, hany, List.any_cons, hcv]; simp [h7]
        · have hcv : chV st.ch o.id = [] := by unfold chV; rw [← hok.ch, e2]; rfl
          refine Q.dgo [true, true, true, false, false, false, false] [7] [] [0, 1, 2, 3, 4, 5, 6, 8, 7, 9] ?_
          refine Q.rd ?_; (repeat (intro b1; refine Q.rd ?_))
          refine D.y rfl rfl rfl (by kernel_rfl) (Y.lk false rfl rfl (fun w => Tryd.zeroValue92 w)) ?_
          rw [e1]
          dsimp only
          refine Q.rd ?_; (repeat (intro b1; refine Q.rd ?_))
          refine D.e rfl rfl rfl ?_
          refine S.cr rfl (LastN_spec _) ?_
          rintro _ _ ⟨rfl, rfl⟩
          refine Q.r ?_; (repeat (intro b1; refine Q.r ?_))
          refine Q.rd ?_; (repeat (intro b1; refine Q.rd ?_))
          refine Q.r ?_; (repeat (intro b1; refine Q.r ?_))
          refine ⟨k + 1, ⟨rfl, rfl, rfl, rfl, rfl, rfl, rfl, trivial⟩, Ent.drop (Ent.refl _), ⟨by omega, ?_⟩, by omega⟩
          rw [take_snoc ho, List.any_append, hany, List.any_cons, hcv, decide_eq_false (show ¬ s ≤ lastS [] by show ¬ s ≤ 0; omega)]; rfl
      · have hke : k = x.ops.length := by omega
        subst hke
        rw [List.take_length] at hany
        refine Q.r ?_; (repeat (intro b1; refine Q.r ?_))
        exact ⟨(), ⟨rfl, rfl, rfl, rfl, trivial⟩, Ent.refl _, hany⟩
    intro uu hany
    rw [hany] at hE
    simp only [Bool.false_eq_true, if_false] at hE
    by_cases h12 : s ≤ st.mark
    · rw [if_pos h12] at hE
      have hS' := applyS_ne (st := st) (txn := txn) (s := s) (by rw [hE]; decide)
      rw [hE, hS']
      refine Q.r ?_; (repeat (intro b1; refine Q.r ?_))
      exact N.r1 (RV.tmp rfl RV.nil) (by refine Ent.trans ?_ (vault_shut (mc := mc) (mi := mi) hok); repeat (first | exact Ent.refl _ | exact Ent.nil | refine Ent.pick ?_ | refine Ent.nilS ?_ | refine Ent.nilM ?_ | refine Ent.drop ?_)) ⟨rfl, rfl⟩
    rw [if_neg h12] at hE
    rw [hS hE, hE]
    refine Q.r ?_; (repeat (intro b1; refine Q.r ?_))
    refine swp_loop (σ := Nat × (Nat → Option Obj) × List CR) (fun u => [(0, ptrV v), (1, .int .u64 txn), (2, .int .u64 s), (68, .slice x.a x.ops.length x.c), (69, .int .i64 x.ops.length), (70, .int .i64 u.1)]) (fun u => vP v mc mi st.dim st.mark :: vC mc u.2.2 :: vI mi is :: chsH u.2.1 u.2.2 :: roM u.2.1 :: pt b1 (cl x.cells 66) :: L)
      (fun u => u.1 ≤ x.ops.length ∧ leM M u.2.1 ∧ u.2.2.map (fun c => (c.1, c.2.2)) = applyC s st.ch ((x.ops.take u.1).map OV.abs)) (fun u => x.ops.length - u.1) (0, M, cs) ⟨rfl, rfl, rfl, rfl, rfl, rfl, trivial⟩ (by repeat (first | exact Ent.refl _ | exact Ent.nil | refine Ent.pick ?_ | refine Ent.nilS ?_ | refine Ent.nilM ?_ | refine Ent.drop ?_)) ⟨by omega, leM.refl M, by dsimp only; rw [hok.ch]; rfl⟩ ?_
    rintro ⟨k, M1, cs1⟩ ⟨hk, hl1, hcs⟩
    dsimp only at hk hl1 hcs ⊢
    by_cases hlt : k < x.ops.length
    · obtain ⟨o, ho⟩ := mem_get hlt
      have hmo : o ∈ x.ops := List.mem_of_getElem? ho
      have hrx : RdO (vP v mc mi st.dim st.mark :: vC mc cs1 :: vI mi is :: chsH M1 cs1 :: roM M1 :: pt b1 (cl x.cells 66) :: L) x.a x.ops := (hox.mono hl1).rd
      obtain ⟨b, oo, hia, hr⟩ := RdS.elem (g := OV.cells) (fun _ => rfl) hrx.1 ho rfl
      clear hrx
      rw [hia]
      refine Q.r ?_; (repeat (intro b1; refine Q.r ?_))
      rename_i bx
      have hkk : keysOK (cs1.map fun c => (c.1, c.2.2)) := by rw [hcs]; exact applyC_ok hok.k1
      refine swp_cutT (σ := Bool) (fun t => [(0, ptrV v), (1, .int .u64 txn), (2, .int .u64 s), (12, .pointer (some ⟨b1, 0, none⟩)), (68, .slice (some ⟨b, oo, none⟩) x.ops.length x.c), (69, .int .i64 x.ops.length), (70, .int .i64 k), (81, .bool t)])
        (fun _ => pt b1 (cl o.cells 73) :: vP v mc mi st.dim st.mark :: vC mc cs1 :: vI mi is :: chsH M1 cs1 :: roM M1 :: pt bx (cl x.cells 66) :: L)
        (fun t => (t = true ∧ ∀ u ∈ cs1, u.1 ≠ o.id) ∨ (t = false ∧ ∃ p q b vs, cs1 = p ++ (o.id, b, vs) :: q ∧ (∀ u ∈ p, u.1 ≠ o.id) ∧ ∀ u ∈ q, u.1 ≠ o.id)) ?_ ?_
      · refine Q.dgo [true, true, true, false, false, false, false] [] [] [0, 1, 2, 3, 4, 5, 6, 7] ?_
        refine Q.rd ?_; (repeat (intro b1; refine Q.rd ?_))
        refine D.y rfl rfl rfl (by kernel_rfl) (Y.lk false rfl rfl (fun w => Tryd.zeroValue92 w)) ?_
        rcases cr_case cs1 hkk o.id with ⟨p, q, b2, vs, e0, e1, e2, e3, e4⟩ | ⟨e1, e2, e3⟩
        · rw [e1]
          dsimp only
          refine Q.rd ?_; (repeat (intro b1; refine Q.rd ?_))
          refine Q.r ?_; (repeat (intro b1; refine Q.r ?_))
          exact ⟨false, ⟨rfl, rfl, rfl, rfl, rfl, rfl, rfl, rfl, trivial⟩, Ent.refl _, .inr ⟨rfl, p, q, b2, vs, e0, e3, e4⟩⟩
        · rw [e1]
          dsimp only
          refine Q.rd ?_; (repeat (intro b1; refine Q.rd ?_))
          refine Q.r ?_; (repeat (intro b1; refine Q.r ?_))
          exact ⟨true, ⟨rfl, rfl, rfl, rfl, rfl, rfl, rfl, rfl, trivial⟩, Ent.refl _, .inl ⟨rfl, e3⟩⟩
      intro t ht
      refine swp_cutT (σ := List CR × List CR × Nat × VL) (fun u => [(0, ptrV v), (1, .int .u64 txn), (2, .int .u64 s), (12, .pointer (some ⟨b1, 0, none⟩)), (68, .slice (some ⟨b, oo, none⟩) x.ops.length x.c), (69, .int .i64 x.ops.length), (70, .int .i64 k)])
        (fun u => pt b1 (cl o.cells 73) :: vP v mc mi st.dim st.mark :: vC mc (u.1 ++ (o.id, u.2.2.1, u.2.2.2) :: u.2.1) :: chainH M1 u.2.2.1 u.2.2.2 :: roM M1 :: vI mi is :: chsH M1 (u.1 ++ u.2.1) :: pt bx (cl x.cells 66) :: L)
        (fun u => AtC (cs1.map fun c => (c.1, c.2.2)) o.id u.1 u.2.1 u.2.2.1 u.2.2.2) ?_ ?_
      · rcases ht with ⟨rfl, e3⟩ | ⟨rfl, p, q, b2, vs, rfl, e3, e4⟩
        · refine Q.r ?_; (repeat (intro b1; refine Q.r ?_))
          refine Q.dgo [true, true, false, false, false, false, false] [6, 10] [] [0, 1, 2, 3, 4, 5, 6, 7, 8, 9, 10] ?_
          refine Q.rd ?_; (repeat (intro b1; refine Q.rd ?_))
          refine D.e rfl rfl rfl ?_
          refine S.cr rfl (ChNew0_spec M1 _) ?_
          rintro _ _ ⟨b2, rfl, rfl⟩
          refine Q.r ?_; (repeat (intro b1; refine Q.r ?_))
          refine Q.rd ?_; (repeat (intro b1; refine Q.rd ?_))
          refine D.e rfl rfl rfl ?_
          refine S.mu (r := ptrV) (u := b2) rfl rfl rfl ?_
          refine Q.r ?_; (repeat (intro b1; refine Q.r ?_))
          refine Q.rd ?_; (repeat (intro b1; refine Q.rd ?_))
          refine N.tn ?_
          rw [putL_none (fun u hu => by obtain ⟨w, hw, rfl⟩ := List.mem_map.1 hu; exact e3 w hw)]
          refine ⟨(cs1, [], b2, []), ⟨rfl, rfl, rfl, rfl, rfl, rfl, rfl, trivial⟩, ?_, AtC.none e3⟩
          dsimp only
          rw [List.append_nil, show vC mc (cs1 ++ [(o.id, b2, [])]) = mpO U64 ptrV mc (cs1.map (fun c => (c.1, c.2.1)) ++ [(o.id, b2)]) by unfold vC; rw [List.map_append]; rfl]
          repeat (first | exact Ent.refl _ | exact Ent.nil | refine Ent.pick ?_ | refine Ent.nilS ?_ | refine Ent.nilM ?_ | refine Ent.drop ?_)
        · refine Q.r ?_; (repeat (intro b1; refine Q.r ?_))
          refine ⟨(p, q, b2, vs), ⟨rfl, rfl, rfl, rfl, rfl, rfl, rfl, trivial⟩, ?_, AtC.some e3 e4⟩
          refine Ent.cons (Ent.cons (Ent.cons ?_))
          refine (Ent.perm (.swap _ _ _)).trans ?_
          refine (chs_out (p := p) (q := q) (x := (o.id, b2, vs)) (M := M1)).trans ?_
          exact Ent.cons (by repeat (first | exact Ent.refl _ | exact Ent.nil | refine Ent.pick ?_ | refine Ent.nilS ?_ | refine Ent.nilM ?_ | refine Ent.drop ?_))
      rintro ⟨p, q, b2, vs⟩ hat
      dsimp only at hat ⊢
      refine Q.r ?_; (repeat (intro b1; refine Q.r ?_))
      refine Q.dgo [true, true, true, false, false, false, false, false] [11] [] [0, 1, 2, 3, 4, 5, 6, 7, 8, 9, 10, 11] ?_
      refine Q.rd ?_; (repeat (intro b1; refine Q.rd ?_))
      refine D.y rfl rfl rfl (by kernel_rfl) (Y.lk false rfl rfl (fun w => Tryd.zeroValue92 w)) ?_
      rw [show lkL ((p ++ (o.id, b2, vs) :: q).map fun c => (c.1, c.2.1)) o.id = some b2 by rw [List.map_append, List.map_cons]; exact lkL_mid fun u hu => by obtain ⟨w, hw, rfl⟩ := List.mem_map.1 hu; exact hat.hp w hw]
      dsimp only
      refine Q.rd ?_; (repeat (intro b1; refine Q.rd ?_))
      refine D.e rfl rfl rfl ?_
      have hcl : chV (cs1.map fun c => (c.1, c.2.2)) o.id = chV st.ch o.id := by
        unfold chV
        rw [hcs, lk_apply hok.k1]
        intro hm
        obtain ⟨i1, hi1, hi2⟩ := List.mem_iff_getElem.1 hm
        simp only [List.length_map, List.length_take] at hi1
        have hnd := hwx.2.1
        have h2 : (x.abs.2.2.map (·.1))[k]? = some o.id := by simp [ho]
        have h1' : (x.abs.2.2.map (·.1))[i1]? = some o.id := by
          have : ((x.ops.take k).map OV.abs).map (·.1) = (x.abs.2.2.map (·.1)).take k := by simp [List.map_take]
          rw [List.getElem_of_eq this] at hi2
          rw [List.getElem_take] at hi2
          rw [← hi2]; exact List.getElem?_eq_getElem _
        have e := (List.getElem?_inj (by simp; omega) hnd).1 (h1'.trans h2.symm)
        omega
      have hvs : vs = chV st.ch o.id := hat.hv.trans hcl
      have hvl : vs.length ≤ n := by
        rw [hvs]; unfold chV
        cases hz : lkL st.ch o.id with
        | none => simp
        | some w => exact (hw.co _ (lk_memL hz)).2.1
      have hwo := hwx.2.2 o.abs (List.mem_map_of_mem (f := OV.abs) hmo)
      have hlo : o.vec.length ≤ 8 := hwo.1
      have hlast : ¬ s ≤ lastS vs := by
        rw [hvs]
        intro hh
        have := List.any_eq_false.1 hany o hmo
        exact this (decide_eq_true hh)
      have hput : putE vs s o.vec = 0 := by
        unfold putE
        rw [if_neg (by omega), if_neg (fun hh => by rw [show rightV o.vec = true from hwo.2 hh.1] at hh; cases hh.2), if_neg hlast]
      refine S.cr rfl (Put_spec M1 b2 vs ⟨s, o.a, o.c, o.vec⟩ _ ((hox.mono hl1).2 o hmo).rd (by dsimp only; omega) (by omega)) ?_
      rintro _ _ ⟨rfl, _, hh⟩
      obtain ⟨M2, hl2, rfl⟩ := hh hput
      refine Q.r ?_; (repeat (intro b1; refine Q.r ?_))
      refine Q.rd ?_; (repeat (intro b1; refine Q.rd ?_))
      refine Q.r ?_; (repeat (intro b1; refine Q.r ?_))
      refine ⟨(k + 1, M2, p ++ (o.id, b2, vs ++ [(s, o.vec)]) :: q), ⟨rfl, rfl, rfl, rfl, rfl, rfl, trivial⟩, ?_, ⟨by dsimp only; omega, hl1.trans hl2, ?_⟩, by dsimp only; omega⟩
      · dsimp only
        rw [show vC mc (p ++ (o.id, b2, vs) :: q) = vC mc (p ++ (o.id, b2, vs ++ [(s, o.vec)]) :: q) by unfold vC; simp]
        refine Ent.drop (Ent.cons (Ent.cons ?_))
        refine Ent.trans ?_ (Ent.cons (chs_in (x := (o.id, b2, vs ++ [(s, o.vec)])) (p := p) (q := q)))
        refine Ent.pick (Ent.pick ?_)
        refine (Ent.perm (.swap _ _ _)).trans ?_
        exact chs_mono hl2
      · dsimp only
        rw [hat.put, hcs, take_snoc ho, List.map_append, List.map_cons, List.map_nil, applyC_snoc]
        unfold putC
        rw [← hcs, hat.hv]
    · have hke : k = x.ops.length := by omega
      subst hke
      rw [List.take_length] at hcs
      refine Q.r ?_; (repeat (intro b1; refine Q.r ?_))
      refine S.dl rfl rfl ?_
      rw [del_map]
      refine Q.r ?_; (repeat (intro b1; refine Q.r ?_))
      have hok2 : VOK M1 { st with ch := applyC s st.ch (x.ops.map OV.abs), its := delL st.its txn } cs1 (is.filter fun i => !decide (i.txn = txn)) := by
        have h2 := hok.del txn
        exact ⟨hcs, h2.its, fun i hi => (h2.ok i hi).mono hl1, applyC_ok hok.k1, h2.k2⟩
      refine N.r1 (RV.tmp rfl RV.nil) (Ent.trans ?_ (vault_shut (mc := mc) (mi := mi) hok2)) ⟨rfl, rfl⟩
      repeat (first | exact Ent.refl _ | exact Ent.nil | refine Ent.pick ?_ | refine Ent.nilS ?_ | refine Ent.nilM ?_ | refine Ent.drop ?_)
end Go.Proofs.YtjidejcehmamkaaDoor
