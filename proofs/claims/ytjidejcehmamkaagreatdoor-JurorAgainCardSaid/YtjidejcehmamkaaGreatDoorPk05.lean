/- The vault: Apply, Free. maps.Keys at maps with keys of type uint64, walked. slices.Sort's parts at numbers of type uint64, walked: cmp.Less, insertionSort. slices.Sort's parts at numbers of type uint64, walked: siftDown, heapSort. slices.Sort's parts at numbers of type uint64, walked: heapSort, reverseRange. slices.Sort's parts at numbers of type uint64, walked: partition.  By a program (wip/gen/srt.py). slices.Sort's parts at numbers of type uint64, walked: partitionEqual.  By a program (wip/gen/srt.py). slices.Sort's parts at numbers of type uint64, walked: partialInsertionSort. slices.Sort's parts at numbers of type uint64, walked: the pivot. slices.Sort's parts at numbers of type uint64, walked: bits.Len, breakPatterns. slices.Sort's parts at numbers of type uint64, walked: breakPatterns. slices.Sort's parts at numbers of type uint64, walked: pdqsort. slices.Sort, slices.Sorted(maps.Keys(..)) at numbers of type uint64. The vault: ids, Dump (its length), Intents (its length), Get, Last. The vault: Get, Last. The vault's law: Few, awake. VaultApplies, walked. No condition. -/
import Derived.Sort.LotD1
import Derived.Sort.AssemblyPlain
import Derived.Test.YtjidejcehmamkaaGreatDoorPk04
set_option linter.unusedVariables false
set_option linter.unusedSimpArgs false
set_option linter.unusedSectionVars false
namespace Go.Proofs.YtjidejcehmamkaaGreatDoor
open Go Go.SX
attribute [local irreducible] swp opsS thenS blockS retS CallsS St Ent YieldS anyS drawS
def chV (ch : List (Int × VL)) (id : Int) : VL := (lkL ch id).getD []
def putC (s : Int) (ch : List (Int × VL)) (o : Int × List Int) : List (Int × VL) := putL ch o.1 (chV ch o.1 ++ [(s, o.2)])
def applyC (s : Int) (ch : List (Int × VL)) (ops : VL) : List (Int × VL) := ops.foldl (putC s) ch
def applyE (st : VS) (txn s : Int) : Int :=
  match lkL st.its txn with
  | none => if s = 0 ∨ 1099511627776 < s then 1 else 6
  | some i => if s = 0 ∨ 1099511627776 < s ∨ s ≤ i.1 then 1 else if i.2.any fun o => decide (s ≤ lastS (chV st.ch o.1)) then 7 else if s ≤ st.mark then 12 else 0
def applyS (st : VS) (txn s : Int) : VS :=
  match lkL st.its txn with
  | none => st
  | some i => if applyE st txn s = 0 then { st with ch := applyC s st.ch i.2, its := delL st.its txn } else st
structure WF (st : VS) (n : Nat) : Prop where
  d1 : 1 ≤ st.dim
  d2 : st.dim ≤ 8
  il : st.its.length ≤ n
  io : ∀ i ∈ st.its, i.2.2.length ≤ 16 ∧ (i.2.2.map (·.1)).Nodup ∧ ∀ o ∈ i.2.2, o.2.length ≤ 8 ∧ (0 < o.2.length → rightV o.2 = true)
  cl : st.ch.length ≤ 16 * n
  co : ∀ c ∈ st.ch, sortedV c.2 ∧ c.2.length ≤ n ∧ ∀ v ∈ c.2, v.2.length ≤ 8
theorem WF.ops {st : VS} {n : Nat} (h : WF st n) : opsLe st := fun i hi => by have := (h.io i hi).1; omega
theorem lk_memL {κ α : Type} [DecidableEq κ] {m : List (κ × α)} {x : κ} {a : α} (h : lkL m x = some a) : (x, a) ∈ m := by
  unfold lkL at h
  obtain ⟨p, hp, hx⟩ := Option.map_eq_some_iff.1 h
  have h1 := List.mem_of_find?_eq_some hp
  have h2 := List.find?_some hp
  have h3 : p.1 = x := by simpa using h2
  subst hx h3
  exact h1
theorem cr_case (cs : List CR) (hk : keysOK (cs.map fun c => (c.1, c.2.2))) (id : Int) :
    (∃ p q b vs, cs = p ++ (id, b, vs) :: q ∧ lkL (cs.map fun c => (c.1, c.2.1)) id = some b ∧ lkL (cs.map fun c => (c.1, c.2.2)) id = some vs ∧ (∀ u ∈ p, u.1 ≠ id) ∧ ∀ u ∈ q, u.1 ≠ id) ∨
    (lkL (cs.map fun c => (c.1, c.2.1)) id = none ∧ lkL (cs.map fun c => (c.1, c.2.2)) id = none ∧ ∀ u ∈ cs, u.1 ≠ id) := by
  rcases keyCase cs (show keysOK cs by unfold keysOK at *; rw [List.map_map] at hk; exact hk) id with ⟨p, x, q, rfl, hp, hq⟩ | hn
  · obtain ⟨b, vs⟩ := x
    refine .inl ⟨p, q, b, vs, rfl, ?_, ?_, hp, hq⟩
    · rw [List.map_append, List.map_cons]
      exact lkL_mid fun u hu => by obtain ⟨w, hw, rfl⟩ := List.mem_map.1 hu; exact hp w hw
    · rw [List.map_append, List.map_cons]
      exact lkL_mid fun u hu => by obtain ⟨w, hw, rfl⟩ := List.mem_map.1 hu; exact hp w hw
  · exact .inr ⟨lkL_none fun u hu => by obtain ⟨w, hw, rfl⟩ := List.mem_map.1 hu; exact hn w hw, lkL_none fun u hu => by obtain ⟨w, hw, rfl⟩ := List.mem_map.1 hu; exact hn w hw, hn⟩
theorem del_map (is : List IV) (t : Int) : delL (is.map fun i => (i.txn, i)) t = (is.filter fun i => !decide (i.txn = t)).map fun i => (i.txn, i) := by
  unfold delL; rw [List.filter_map]; rfl
theorem VOK.del {M : Nat → Option Obj} {st : VS} {cs : List CR} {is : List IV} (h : VOK M st cs is) (t : Int) : VOK M { st with its := delL st.its t } cs (is.filter fun i => !decide (i.txn = t)) :=
  ⟨h.ch, by rw [← h.its]; unfold delL; rw [List.filter_map]; rfl, fun i hi => h.ok i (List.mem_filter.1 hi).1, h.k1, delL_ok h.k2 t⟩
theorem Free_spec (v : Nat) (st : VS) (txn : Int) (L : List HP) :
    CallsS Tryz.prog 46 [ptrV v, .int .u64 txn] (vaultH v st :: L) (fun r L' => r = .int .i64 (if (lkL st.its txn).isSome then 0 else 6) ∧ L' = vaultH v { st with its := delL st.its txn } :: L) := by
  refine calls_vault fun mc mi M cs is hok => ?_
  have hlk := lk_its is txn
  rw [hok.its] at hlk
  refine CallsS.of_body Tryz.func46 rfl rfl rfl ?_
  refine Q.r ?_; (repeat (intro b1; refine Q.r ?_))
  refine S.y (Y.lk true rfl rfl (fun w => Tryz.zeroValue44 w)) ?_
  cases hx : lkL (is.map fun i => (i.txn, i)) txn with
  | none =>
    rw [hx] at hlk
    rw [hlk]
    dsimp only
    refine Q.r ?_; (repeat (intro b1; refine Q.r ?_))
    have e : delL st.its txn = st.its := delL_none (lk_none' hlk)
    rw [e]
    exact N.r1 (RV.tmp rfl RV.nil) (by refine Ent.trans ?_ (vault_shut (mc := mc) (mi := mi) hok); exact Go.SX.Ent.go) ⟨rfl, rfl⟩
  | some x =>
    rw [hx] at hlk
    rw [hlk]
    dsimp only
    refine Q.r ?_; (repeat (intro b1; refine Q.r ?_))
    refine S.dl rfl rfl ?_
    rw [del_map]
    refine Q.r ?_; (repeat (intro b1; refine Q.r ?_))
    exact N.r1 (RV.tmp rfl RV.nil) (by refine Ent.trans ?_ (vault_shut (mc := mc) (mi := mi) (hok.del txn)); exact Go.SX.Ent.go) ⟨rfl, rfl⟩
theorem applyS_ne {st : VS} {txn s : Int} (h : applyE st txn s ≠ 0) : applyS st txn s = st := by
  unfold applyS
  split
  · rfl
  · rw [if_neg h]
theorem putL_ok' {ch : List (Int × VL)} (h : keysOK ch) (s : Int) (o : Int × List Int) : keysOK (putC s ch o) := putL_ok h _ _
theorem applyC_ok {s : Int} : ∀ {ops : VL} {ch : List (Int × VL)}, keysOK ch → keysOK (applyC s ch ops)
  | [], _, h => h
  | o :: ops, _, h => applyC_ok (ops := ops) (putL_ok' h s o)
theorem applyC_snoc (s : Int) (ch : List (Int × VL)) (ops : VL) (o : Int × List Int) : applyC s ch (ops ++ [o]) = putC s (applyC s ch ops) o := List.foldl_append ..
theorem lk_apply {s : Int} {id : Int} : ∀ {ops : VL} {ch : List (Int × VL)}, keysOK ch → id ∉ ops.map (·.1) → lkL (applyC s ch ops) id = lkL ch id
  | [], _, _, _ => rfl
  | o :: ops, ch, h, hn => by
    simp only [List.map_cons, List.mem_cons, not_or] at hn
    have := lk_apply (s := s) (ops := ops) (putL_ok' h s o) hn.2
    show lkL (applyC s (putC s ch o) ops) id = _
    rw [this]
    unfold putC
    rw [lkL_put h, if_neg hn.1]
theorem applyC_len {s : Int} : ∀ {ops : VL} {ch : List (Int × VL)}, keysOK ch → (applyC s ch ops).length ≤ ch.length + ops.length
  | [], _, _ => Nat.le_refl _
  | o :: ops, ch, h => by
    have h1 := applyC_len (s := s) (ops := ops) (putL_ok' h s o)
    have h2 : (putC s ch o).length ≤ ch.length + 1 := by
      unfold putC
      rcases keyCase ch h o.1 with ⟨p, b, q, rfl, hp, hq⟩ | hn
      · rw [putL_mid hp hq]; simp
      · rw [putL_none hn]; simp
    show (applyC s (putC s ch o) ops).length ≤ _
    simp only [List.length_cons]
    omega
structure AtC (ch : List (Int × VL)) (id : Int) (p q : List CR) (b : Nat) (vs : VL) : Prop where
  hv : vs = chV ch id
  hp : ∀ u ∈ p, u.1 ≠ id
  hq : ∀ u ∈ q, u.1 ≠ id
  put : ∀ w, (p ++ (id, b, w) :: q).map (fun c => (c.1, c.2.2)) = putL ch id w
theorem AtC.some {p q : List CR} {id : Int} {b : Nat} {vs : VL} (hp : ∀ u ∈ p, u.1 ≠ id) (hq : ∀ u ∈ q, u.1 ≠ id) : AtC ((p ++ (id, b, vs) :: q).map fun c => (c.1, c.2.2)) id p q b vs := by
  have h1 : ∀ u ∈ p.map (fun c : CR => (c.1, c.2.2)), u.1 ≠ id := fun u hu => by obtain ⟨w, hw, rfl⟩ := List.mem_map.1 hu; exact hp w hw
  have h2 : ∀ u ∈ q.map (fun c : CR => (c.1, c.2.2)), u.1 ≠ id := fun u hu => by obtain ⟨w, hw, rfl⟩ := List.mem_map.1 hu; exact hq w hw
  refine ⟨?_, hp, hq, fun w => ?_⟩
  · unfold chV
    rw [List.map_append, List.map_cons, lkL_mid h1]; rfl
  · rw [List.map_append, List.map_append, List.map_cons, List.map_cons, putL_mid h1 h2]
theorem AtC.none {cs : List CR} {id : Int} {b : Nat} (hn : ∀ u ∈ cs, u.1 ≠ id) : AtC (cs.map fun c => (c.1, c.2.2)) id cs [] b [] := by
  have h1 : ∀ u ∈ cs.map (fun c : CR => (c.1, c.2.2)), u.1 ≠ id := fun u hu => by obtain ⟨w, hw, rfl⟩ := List.mem_map.1 hu; exact hn w hw
  refine ⟨?_, hn, by simp, fun w => ?_⟩
  · unfold chV
    rw [lkL_none h1]; rfl
  · rw [List.map_append, putL_none h1]; rfl
set_option maxHeartbeats 4000000 in
theorem Apply_spec (v : Nat) (st : VS) (n : Nat) (txn s : Int) (L : List HP) (hw : WF st n) (hn : n ≤ 10000) (hs0 : 0 ≤ s) :
    CallsS Tryz.prog 45 [ptrV v, .int .u64 txn, .int .u64 s] (vaultH v st :: L) (fun r L' => r = .int .i64 (applyE st txn s) ∧ L' = vaultH v (applyS st txn s) :: L) := by
  refine calls_vault fun mc mi M cs is hok => ?_
  have hlk := lk_its is txn
  rw [hok.its] at hlk
  refine CallsS.of_body Tryz.func45 rfl rfl rfl ?_
  refine Q.r ?_; (repeat (intro b1; refine Q.r ?_))
  refine S.y (Y.lk true rfl rfl (fun w => Tryz.zeroValue44 w)) ?_
  cases hx : lkL (is.map fun i => (i.txn, i)) txn with
  | none =>
    rw [hx, Option.map_none] at hlk
    have hE : applyE st txn s = if s = 0 ∨ 1099511627776 < s then 1 else 6 := by unfold applyE; rw [hlk]
    have hS : applyS st txn s = st := by unfold applyS; rw [hlk]
    rw [hE, hS]
    dsimp only
    by_cases h1 : s = 0 ∨ 1099511627776 < s
    · rw [if_pos h1]
      by_cases h1a : s = 0
      · refine Q.r ?_; (repeat (intro b1; refine Q.r ?_))
        exact N.r1 (RV.tmp rfl RV.nil) (by refine Ent.trans ?_ (vault_shut (mc := mc) (mi := mi) hok); exact Go.SX.Ent.go) ⟨rfl, rfl⟩
      · refine Q.r ?_; (repeat (intro b1; refine Q.r ?_))
        exact N.r1 (RV.tmp rfl RV.nil) (by refine Ent.trans ?_ (vault_shut (mc := mc) (mi := mi) hok); exact Go.SX.Ent.go) ⟨rfl, rfl⟩
    · rw [if_neg h1]
      refine Q.r ?_; (repeat (intro b1; refine Q.r ?_))
      exact N.r1 (RV.tmp rfl RV.nil) (by refine Ent.trans ?_ (vault_shut (mc := mc) (mi := mi) hok); exact Go.SX.Ent.go) ⟨rfl, rfl⟩
  | some x =>
    rw [hx, Option.map_some] at hlk
    obtain ⟨hmx, hxt⟩ := lk_mem hx
    have hox := hok.ok x hmx
    have hwx := hw.io x.abs (by rw [← hok.its]; exact List.mem_map_of_mem hmx)
    have hxl : x.ops.length ≤ 16 := by simpa using hwx.1
    have hE : applyE st txn s = if s = 0 ∨ 1099511627776 < s ∨ s ≤ x.after then 1 else if (x.ops.any fun o => decide (s ≤ lastS (chV st.ch o.id))) then 7 else if s ≤ st.mark then 12 else 0 := by unfold applyE; rw [hlk]; dsimp only; rw [List.any_map]; rfl
    have hS : applyE st txn s = 0 → applyS st txn s = { st with ch := applyC s st.ch (x.ops.map OV.abs), its := delL st.its txn } := fun h => by unfold applyS; rw [hlk]; dsimp only; rw [if_pos h]
    clear hlk
    dsimp only
    by_cases h1 : s = 0 ∨ 1099511627776 < s ∨ s ≤ x.after
    · rw [if_pos h1] at hE
      have hS' := applyS_ne (st := st) (txn := txn) (s := s) (by rw [hE]; decide)
      rw [hE, hS']
      by_cases h1a : s = 0
      · refine Q.r ?_; (repeat (intro b1; refine Q.r ?_))
        exact N.r1 (RV.tmp rfl RV.nil) (by refine Ent.trans ?_ (vault_shut (mc := mc) (mi := mi) hok); exact Go.SX.Ent.go) ⟨rfl, rfl⟩
      by_cases h1b : 1099511627776 < s
      · refine Q.r ?_; (repeat (intro b1; refine Q.r ?_))
        exact N.r1 (RV.tmp rfl RV.nil) (by refine Ent.trans ?_ (vault_shut (mc := mc) (mi := mi) hok); exact Go.SX.Ent.go) ⟨rfl, rfl⟩
      · have h1c : s ≤ x.after := by omega
        refine Q.r ?_; (repeat (intro b1; refine Q.r ?_))
        exact N.r1 (RV.tmp rfl RV.nil) (by refine Ent.trans ?_ (vault_shut (mc := mc) (mi := mi) hok); exact Go.SX.Ent.go) ⟨rfl, rfl⟩
    rw [if_neg h1] at hE
    refine Q.r ?_; (repeat (intro b1; refine Q.r ?_))
    refine swp_cutB (σ := Unit) (fun _ => [(0, ptrV v), (1, .int .u64 txn), (2, .int .u64 s), (7, .pointer (some ⟨b1, 0, none⟩))]) (fun _ => vP v mc mi st.dim st.mark :: vC mc cs :: vI mi is :: chsH M cs :: roM M :: pt b1 (cl x.cells 44) :: L) (fun _ => (x.ops.any fun o => decide (s ≤ lastS (chV st.ch o.id))) = false) ?_ ?_
    · refine swp_loop (σ := Nat) (fun k => [(0, ptrV v), (1, .int .u64 txn), (2, .int .u64 s), (7, .pointer (some ⟨b1, 0, none⟩)), (44, .slice x.a x.ops.length x.c), (45, .int .i64 x.ops.length), (46, .int .i64 k)]) (fun _ => vP v mc mi st.dim st.mark :: vC mc cs :: vI mi is :: chsH M cs :: roM M :: pt b1 (cl x.cells 44) :: L)
        (fun k => k ≤ x.ops.length ∧ (x.ops.take k).any (fun o => decide (s ≤ lastS (chV st.ch o.id))) = false) (fun k => x.ops.length - k) 0 ⟨rfl, rfl, rfl, rfl, rfl, rfl, rfl, trivial⟩ (by exact Go.SX.Ent.go) ⟨by omega, by simp⟩ ?_
      rintro k ⟨hk, hany⟩
      by_cases hlt : k < x.ops.length
      · obtain ⟨o, ho⟩ := mem_get hlt
        have hmo : o ∈ x.ops := List.mem_of_getElem? ho
        have hrx : RdO (vP v mc mi st.dim st.mark :: vC mc cs :: vI mi is :: chsH M cs :: roM M :: pt b1 (cl x.cells 44) :: L) x.a x.ops := hox.rd
        obtain ⟨b, oo, hia, hr⟩ := RdS.elem (g := OV.cells) (fun _ => rfl) hrx.1 ho rfl
        clear hrx
        rw [hia]
        refine Q.r ?_; (repeat (intro b1; refine Q.r ?_))
        rename_i bx
        rcases cr_case cs (by rw [hok.ch]; exact hok.k1) o.id with ⟨p, q, b2, vs, rfl, e1, e2, e3, e4⟩ | ⟨e1, e2, e3⟩
        · refine swp_ent (L' := pt b1 (cl o.cells 46) :: vP v mc mi st.dim st.mark :: vC mc (p ++ (o.id, b2, vs) :: q) :: chainH M b2 vs :: vI mi is :: chsH M (p ++ q) :: roM M :: pt bx (cl x.cells 44) :: L) ?_ ?_
          · refine Ent.pick (Ent.pick (Ent.pick ?_))
            refine Ent.trans (Ent.perm (.swap _ _ _)) ?_
            exact (chs_out (p := p) (q := q) (x := (o.id, b2, vs)) (M := M)).trans (Ent.cons (Ent.perm (.swap _ _ _)))
          refine Q.dgo [true, true, true, false, false, false, false, false] [7] [] [0, 1, 2, 3, 4, 5, 6, 8, 7, 9] ?_
          refine Q.rd ?_; (repeat (intro b1; refine Q.rd ?_))
          refine D.y rfl rfl rfl (by kernel_rfl) (Y.lk false rfl rfl (fun w => Tryz.zeroValue216 w)) ?_
          rw [e1]
          dsimp only
          have hvl : vs.length ≤ n := (hw.co (o.id, vs) (by rw [← hok.ch]; exact List.mem_map_of_mem (f := fun c : CR => (c.1, c.2.2)) (List.mem_append_right _ (List.mem_cons_self ..)))).2.1
          refine Q.rd ?_; (repeat (intro b1; refine Q.rd ?_))
          refine D.e rfl rfl rfl ?_
          refine S.cr rfl (ChLast_spec M b2 vs _ (by omega)) ?_
          rintro _ _ ⟨rfl, rfl⟩
          refine Q.r ?_; (repeat (intro b1; refine Q.r ?_))
          refine Q.rd ?_; (repeat (intro b1; refine Q.rd ?_))
          have hcv : chV st.ch o.id = vs := by unfold chV; rw [← hok.ch, e2]; rfl
          have hb : Ent (pt b1 (cl o.cells 46) :: vP v mc mi st.dim st.mark :: vC mc (p ++ (o.id, b2, vs) :: q) :: chainH M b2 vs :: vI mi is :: chsH M (p ++ q) :: roM M :: pt bx (cl x.cells 44) :: L) (vP v mc mi st.dim st.mark :: vC mc (p ++ (o.id, b2, vs) :: q) :: vI mi is :: chsH M (p ++ (o.id, b2, vs) :: q) :: roM M :: pt bx (cl x.cells 44) :: L) :=
            Ent.drop (Ent.cons (Ent.cons ((Ent.perm (.swap _ _ _)).trans (Ent.cons (chs_in (x := (o.id, b2, vs)))))))
          by_cases h7 : s ≤ lastS vs
          · rw [show (x.ops.any fun o => decide (s ≤ lastS (chV st.ch o.id))) = true from List.any_eq_true.2 ⟨o, hmo, by rw [hcv]; exact decide_eq_true h7⟩, if_pos rfl] at hE
            have hS' := applyS_ne (st := st) (txn := txn) (s := s) (by rw [hE]; decide)
            rw [hE, hS']
            refine Q.r ?_; (repeat (intro b1; refine Q.r ?_))
            refine N.r1 (RV.tmp rfl RV.nil) ?_ ⟨rfl, rfl⟩
            refine hb.trans ?_
            refine Ent.trans ?_ (vault_shut (mc := mc) (mi := mi) hok)
            exact Go.SX.Ent.go
          · refine Q.r ?_; (repeat (intro b1; refine Q.r ?_))
            refine ⟨k + 1, ⟨rfl, rfl, rfl, rfl, rfl, rfl, rfl, trivial⟩, hb, ⟨by omega, ?_⟩, by omega⟩
            rw [take_snoc ho, List.any_append, hany, List.any_cons, hcv]; simp [h7]
        · have hcv : chV st.ch o.id = [] := by unfold chV; rw [← hok.ch, e2]; rfl
          refine Q.dgo [true, true, true, false, false, false, false] [7] [] [0, 1, 2, 3, 4, 5, 6, 8, 7, 9] ?_
          refine Q.rd ?_; (repeat (intro b1; refine Q.rd ?_))
          refine D.y rfl rfl rfl (by kernel_rfl) (Y.lk false rfl rfl (fun w => Tryz.zeroValue216 w)) ?_
          rw [e1]
          dsimp only
          refine Q.rd ?_; (repeat (intro b1; refine Q.rd ?_))
          refine D.e rfl rfl rfl ?_
          refine S.cr rfl (LastN_spec _) ?_
          rintro _ _ ⟨rfl, rfl⟩
          refine Q.r ?_; (repeat (intro b1; refine Q.r ?_))
          refine Q.rd ?_; (repeat (intro b1; refine Q.rd ?_))
          refine Q.r ?_; (repeat (intro b1; refine Q.r ?_))
          refine ⟨k + 1, ⟨rfl, rfl, rfl, rfl, rfl, rfl, rfl, trivial⟩, Ent.drop (Ent.refl _), ⟨by omega, ?_⟩, by omega⟩
          rw [take_snoc ho, List.any_append, hany, List.any_cons, hcv, decide_eq_false (show ¬ s ≤ lastS [] by show ¬ s ≤ 0; omega)]; rfl
      · have hke : k = x.ops.length := by omega
        subst hke
        rw [List.take_length] at hany
        refine Q.r ?_; (repeat (intro b1; refine Q.r ?_))
        exact ⟨(), ⟨rfl, rfl, rfl, rfl, trivial⟩, Ent.refl _, hany⟩
    intro uu hany
    rw [hany] at hE
    simp only [Bool.false_eq_true, if_false] at hE
    by_cases h12 : s ≤ st.mark
    · rw [if_pos h12] at hE
      have hS' := applyS_ne (st := st) (txn := txn) (s := s) (by rw [hE]; decide)
      rw [hE, hS']
      refine Q.r ?_; (repeat (intro b1; refine Q.r ?_))
      exact N.r1 (RV.tmp rfl RV.nil) (by refine Ent.trans ?_ (vault_shut (mc := mc) (mi := mi) hok); exact Go.SX.Ent.go) ⟨rfl, rfl⟩
    rw [if_neg h12] at hE
    rw [hS hE, hE]
    refine Q.r ?_; (repeat (intro b1; refine Q.r ?_))
    refine swp_loop (σ := Nat × (Nat → Option Obj) × List CR) (fun u => [(0, ptrV v), (1, .int .u64 txn), (2, .int .u64 s), (68, .slice x.a x.ops.length x.c), (69, .int .i64 x.ops.length), (70, .int .i64 u.1)]) (fun u => vP v mc mi st.dim st.mark :: vC mc u.2.2 :: vI mi is :: chsH u.2.1 u.2.2 :: roM u.2.1 :: pt b1 (cl x.cells 44) :: L)
      (fun u => u.1 ≤ x.ops.length ∧ leM M u.2.1 ∧ u.2.2.map (fun c => (c.1, c.2.2)) = applyC s st.ch ((x.ops.take u.1).map OV.abs)) (fun u => x.ops.length - u.1) (0, M, cs) ⟨rfl, rfl, rfl, rfl, rfl, rfl, trivial⟩ (by exact Go.SX.Ent.go) ⟨by omega, leM.refl M, by dsimp only; rw [hok.ch]; rfl⟩ ?_
    rintro ⟨k, M1, cs1⟩ ⟨hk, hl1, hcs⟩
    dsimp only at hk hl1 hcs ⊢
    by_cases hlt : k < x.ops.length
    · obtain ⟨o, ho⟩ := mem_get hlt
      have hmo : o ∈ x.ops := List.mem_of_getElem? ho
      have hrx : RdO (vP v mc mi st.dim st.mark :: vC mc cs1 :: vI mi is :: chsH M1 cs1 :: roM M1 :: pt b1 (cl x.cells 44) :: L) x.a x.ops := (hox.mono hl1).rd
      obtain ⟨b, oo, hia, hr⟩ := RdS.elem (g := OV.cells) (fun _ => rfl) hrx.1 ho rfl
      clear hrx
      rw [hia]
      refine Q.r ?_; (repeat (intro b1; refine Q.r ?_))
      rename_i bx
      have hkk : keysOK (cs1.map fun c => (c.1, c.2.2)) := by rw [hcs]; exact applyC_ok hok.k1
      refine swp_cutT (σ := Bool) (fun t => [(0, ptrV v), (1, .int .u64 txn), (2, .int .u64 s), (12, .pointer (some ⟨b1, 0, none⟩)), (68, .slice (some ⟨b, oo, none⟩) x.ops.length x.c), (69, .int .i64 x.ops.length), (70, .int .i64 k), (81, .bool t)])
        (fun _ => pt b1 (cl o.cells 46) :: vP v mc mi st.dim st.mark :: vC mc cs1 :: vI mi is :: chsH M1 cs1 :: roM M1 :: pt bx (cl x.cells 44) :: L)
        (fun t => (t = true ∧ ∀ u ∈ cs1, u.1 ≠ o.id) ∨ (t = false ∧ ∃ p q b vs, cs1 = p ++ (o.id, b, vs) :: q ∧ (∀ u ∈ p, u.1 ≠ o.id) ∧ ∀ u ∈ q, u.1 ≠ o.id)) ?_ ?_
      · refine Q.dgo [true, true, true, false, false, false, false] [] [] [0, 1, 2, 3, 4, 5, 6, 7] ?_
        refine Q.rd ?_; (repeat (intro b1; refine Q.rd ?_))
        refine D.y rfl rfl rfl (by kernel_rfl) (Y.lk false rfl rfl (fun w => Tryz.zeroValue216 w)) ?_
        rcases cr_case cs1 hkk o.id with ⟨p, q, b2, vs, e0, e1, e2, e3, e4⟩ | ⟨e1, e2, e3⟩
        · rw [e1]
          dsimp only
          refine Q.rd ?_; (repeat (intro b1; refine Q.rd ?_))
          refine Q.r ?_; (repeat (intro b1; refine Q.r ?_))
          exact ⟨false, ⟨rfl, rfl, rfl, rfl, rfl, rfl, rfl, rfl, trivial⟩, Ent.refl _, .inr ⟨rfl, p, q, b2, vs, e0, e3, e4⟩⟩
        · rw [e1]
          dsimp only
          refine Q.rd ?_; (repeat (intro b1; refine Q.rd ?_))
          refine Q.r ?_; (repeat (intro b1; refine Q.r ?_))
          exact ⟨true, ⟨rfl, rfl, rfl, rfl, rfl, rfl, rfl, rfl, trivial⟩, Ent.refl _, .inl ⟨rfl, e3⟩⟩
      intro t ht
      refine swp_cutT (σ := List CR × List CR × Nat × VL) (fun u => [(0, ptrV v), (1, .int .u64 txn), (2, .int .u64 s), (12, .pointer (some ⟨b1, 0, none⟩)), (68, .slice (some ⟨b, oo, none⟩) x.ops.length x.c), (69, .int .i64 x.ops.length), (70, .int .i64 k)])
        (fun u => pt b1 (cl o.cells 46) :: vP v mc mi st.dim st.mark :: vC mc (u.1 ++ (o.id, u.2.2.1, u.2.2.2) :: u.2.1) :: chainH M1 u.2.2.1 u.2.2.2 :: roM M1 :: vI mi is :: chsH M1 (u.1 ++ u.2.1) :: pt bx (cl x.cells 44) :: L)
        (fun u => AtC (cs1.map fun c => (c.1, c.2.2)) o.id u.1 u.2.1 u.2.2.1 u.2.2.2) ?_ ?_
      · rcases ht with ⟨rfl, e3⟩ | ⟨rfl, p, q, b2, vs, rfl, e3, e4⟩
        · refine Q.r ?_; (repeat (intro b1; refine Q.r ?_))
          refine Q.dgo [true, true, false, false, false, false, false] [6, 10] [] [0, 1, 2, 3, 4, 5, 6, 7, 8, 9, 10] ?_
          refine Q.rd ?_; (repeat (intro b1; refine Q.rd ?_))
          refine D.e rfl rfl rfl ?_
          refine S.cr rfl (ChNew0_spec M1 _) ?_
          rintro _ _ ⟨b2, rfl, rfl⟩
          refine Q.r ?_; (repeat (intro b1; refine Q.r ?_))
          refine Q.rd ?_; (repeat (intro b1; refine Q.rd ?_))
          refine D.e rfl rfl rfl ?_
          refine S.mu (r := ptrV) (u := b2) rfl rfl rfl ?_
          refine Q.r ?_; (repeat (intro b1; refine Q.r ?_))
          refine Q.rd ?_; (repeat (intro b1; refine Q.rd ?_))
          refine N.tn ?_
          rw [putL_none (fun u hu => by obtain ⟨w, hw, rfl⟩ := List.mem_map.1 hu; exact e3 w hw)]
          refine ⟨(cs1, [], b2, []), ⟨rfl, rfl, rfl, rfl, rfl, rfl, rfl, trivial⟩, ?_, AtC.none e3⟩
          dsimp only
          rw [List.append_nil, show vC mc (cs1 ++ [(o.id, b2, [])]) = mpO U64 ptrV mc (cs1.map (fun c => (c.1, c.2.1)) ++ [(o.id, b2)]) by unfold vC; rw [List.map_append]; rfl]
          exact Go.SX.Ent.go
        · refine Q.r ?_; (repeat (intro b1; refine Q.r ?_))
          refine ⟨(p, q, b2, vs), ⟨rfl, rfl, rfl, rfl, rfl, rfl, rfl, trivial⟩, ?_, AtC.some e3 e4⟩
          refine Ent.cons (Ent.cons (Ent.cons ?_))
          refine (Ent.perm (.swap _ _ _)).trans ?_
          refine (chs_out (p := p) (q := q) (x := (o.id, b2, vs)) (M := M1)).trans ?_
          exact Ent.cons (by exact Go.SX.Ent.go)
      rintro ⟨p, q, b2, vs⟩ hat
      dsimp only at hat ⊢
      refine Q.r ?_; (repeat (intro b1; refine Q.r ?_))
      refine Q.dgo [true, true, true, false, false, false, false, false] [11] [] [0, 1, 2, 3, 4, 5, 6, 7, 8, 9, 10, 11] ?_
      refine Q.rd ?_; (repeat (intro b1; refine Q.rd ?_))
      refine D.y rfl rfl rfl (by kernel_rfl) (Y.lk false rfl rfl (fun w => Tryz.zeroValue216 w)) ?_
      rw [show lkL ((p ++ (o.id, b2, vs) :: q).map fun c => (c.1, c.2.1)) o.id = some b2 by rw [List.map_append, List.map_cons]; exact lkL_mid fun u hu => by obtain ⟨w, hw, rfl⟩ := List.mem_map.1 hu; exact hat.hp w hw]
      dsimp only
      refine Q.rd ?_; (repeat (intro b1; refine Q.rd ?_))
      refine D.e rfl rfl rfl ?_
      have hcl : chV (cs1.map fun c => (c.1, c.2.2)) o.id = chV st.ch o.id := by
        unfold chV
        rw [hcs, lk_apply hok.k1]
        intro hm
        obtain ⟨i1, hi1, hi2⟩ := List.mem_iff_getElem.1 hm
        simp only [List.length_map, List.length_take] at hi1
        have hnd := hwx.2.1
        have h2 : (x.abs.2.2.map (·.1))[k]? = some o.id := by simp [ho]
        have h1' : (x.abs.2.2.map (·.1))[i1]? = some o.id := by
          have : ((x.ops.take k).map OV.abs).map (·.1) = (x.abs.2.2.map (·.1)).take k := by simp [List.map_take]
          rw [List.getElem_of_eq this] at hi2
          rw [List.getElem_take] at hi2
          rw [← hi2]; exact List.getElem?_eq_getElem _
        have e := (List.getElem?_inj (by simp; omega) hnd).1 (h1'.trans h2.symm)
        omega
      have hvs : vs = chV st.ch o.id := hat.hv.trans hcl
      have hvl : vs.length ≤ n := by
        rw [hvs]; unfold chV
        cases hz : lkL st.ch o.id with
        | none => simp
        | some w => exact (hw.co _ (lk_memL hz)).2.1
      have hwo := hwx.2.2 o.abs (List.mem_map_of_mem (f := OV.abs) hmo)
      have hlo : o.vec.length ≤ 8 := hwo.1
      have hlast : ¬ s ≤ lastS vs := by
        rw [hvs]
        intro hh
        have := List.any_eq_false.1 hany o hmo
        exact this (decide_eq_true hh)
      have hput : putE vs s o.vec = 0 := by
        unfold putE
        rw [if_neg (by omega), if_neg (fun hh => by rw [show rightV o.vec = true from hwo.2 hh.1] at hh; cases hh.2), if_neg hlast]
      refine S.cr rfl (Put_spec M1 b2 vs ⟨s, o.a, o.c, o.vec⟩ _ ((hox.mono hl1).2 o hmo).rd (by dsimp only; omega) (by omega)) ?_
      rintro _ _ ⟨rfl, _, hh⟩
      obtain ⟨M2, hl2, rfl⟩ := hh hput
      refine Q.r ?_; (repeat (intro b1; refine Q.r ?_))
      refine Q.rd ?_; (repeat (intro b1; refine Q.rd ?_))
      refine Q.r ?_; (repeat (intro b1; refine Q.r ?_))
      refine ⟨(k + 1, M2, p ++ (o.id, b2, vs ++ [(s, o.vec)]) :: q), ⟨rfl, rfl, rfl, rfl, rfl, rfl, trivial⟩, ?_, ⟨by dsimp only; omega, hl1.trans hl2, ?_⟩, by dsimp only; omega⟩
      · dsimp only
        rw [show vC mc (p ++ (o.id, b2, vs) :: q) = vC mc (p ++ (o.id, b2, vs ++ [(s, o.vec)]) :: q) by unfold vC; simp]
        refine Ent.drop (Ent.cons (Ent.cons ?_))
        refine Ent.trans ?_ (Ent.cons (chs_in (x := (o.id, b2, vs ++ [(s, o.vec)])) (p := p) (q := q)))
        refine Ent.pick (Ent.pick ?_)
        refine (Ent.perm (.swap _ _ _)).trans ?_
        exact chs_mono hl2
      · dsimp only
        rw [hat.put, hcs, take_snoc ho, List.map_append, List.map_cons, List.map_nil, applyC_snoc]
        unfold putC
        rw [← hcs, hat.hv]
    · have hke : k = x.ops.length := by omega
      subst hke
      rw [List.take_length] at hcs
      refine Q.r ?_; (repeat (intro b1; refine Q.r ?_))
      refine S.dl rfl rfl ?_
      rw [del_map]
      refine Q.r ?_; (repeat (intro b1; refine Q.r ?_))
      have hok2 : VOK M1 { st with ch := applyC s st.ch (x.ops.map OV.abs), its := delL st.its txn } cs1 (is.filter fun i => !decide (i.txn = txn)) := by
        have h2 := hok.del txn
        exact ⟨hcs, h2.its, fun i hi => (h2.ok i hi).mono hl1, applyC_ok hok.k1, h2.k2⟩
      refine N.r1 (RV.tmp rfl RV.nil) (Ent.trans ?_ (vault_shut (mc := mc) (mi := mi) hok2)) ⟨rfl, rfl⟩
      exact Go.SX.Ent.go
end Go.Proofs.YtjidejcehmamkaaGreatDoor
namespace Go.Proofs.YtjidejcehmamkaaGreatDoor
open Go Go.SX
attribute [local irreducible] swp opsS thenS blockS retS CallsS St Ent YieldS anyS drawS
attribute [local irreducible] opsI
theorem KeysI_spec {α : Type} (rr : α → Value) (bm b : Nat) (m : List (Int × α)) (A : List HP) : SeqS Tryz.prog 147 [.pointer (some ⟨bm, 0, none⟩)] U64 m.length (fun ks => ks.Perm (m.map (·.1)))
    (pt bm (cl [.map (some b)] 187) :: mpO U64 rr b m :: A) (mpO U64 rr b m :: A) := by
  intro l J hJ
  refine CallsS.of_body Tryz.func147 rfl rfl rfl ?_
  refine Q.r ?_; (repeat (intro b1; refine Q.r ?_))
  refine S.rg rfl (fun r => ?_)
  refine Q.r ?_; (repeat (intro b1; refine Q.r ?_))
  refine swp_loop (σ := List Nat) (fun vis => [(0, .func (.yield l) #[] #[]), (5, .pointer (some ⟨r, 0, none⟩))])
    (fun vis => J (vis.filterMap fun i => (m[i]?).map (·.1)) :: itO U64 rr b r m vis :: A) (fun vis => vis.Nodup ∧ ∀ i ∈ vis, i < m.length) (fun vis => m.length - vis.length) [] ⟨rfl, rfl, trivial⟩ (by simp only [List.filterMap_nil]; exact Go.SX.Ent.go) ⟨by simp, by simp⟩ ?_
  rintro vis ⟨hv1, hv2⟩
  refine Q.r ?_; (repeat (intro b1; refine Q.r ?_))
  refine S.nx rfl (fun hend => ?_) (fun i p hp hi => ?_)
  · refine Q.r ?_; (repeat (intro b1; refine Q.r ?_))
    exact N.n0 RV.nil (Ent.cons itO_map) ⟨_, vis_map _ hv1 hv2 hend, rfl⟩
  · have hil : i < m.length := (List.getElem?_eq_some_iff.1 hp).1
    obtain ⟨hm1, hm2, hm3⟩ := vis_more hv1 hv2 hil hi
    have hvl : (vis.filterMap fun i => (m[i]?).map (·.1)).length ≤ vis.length := List.length_filterMap_le _ _
    have happ : ((vis ++ [i]).filterMap fun i => (m[i]?).map (·.1)) = (vis.filterMap fun i => (m[i]?).map (·.1)) ++ [p.1] := by
      rw [List.filterMap_append]; simp [hp]
    refine Q.r ?_; (repeat (intro b1; refine Q.r ?_))
    refine S.y (Y.en rfl hp) ?_
    refine S.y (Y.ext rfl rfl) ?_
    refine S.y (Y.as rfl) ?_
    refine opsS_nil ?_
    refine N.tn ?_
    refine swp_seq ?_
    refine swp_regionI ?_
    refine opsI_one (fun _ h => by cases h) rfl ?_
    refine Q.r ?_; (repeat (intro b1; refine Q.r ?_))
    refine opsI_one (fun _ h => by cases h) rfl ?_
    refine Q.r ?_; (repeat (intro b1; refine Q.r ?_))
    refine opsI_yield rfl rfl ((hJ _ p.1 (by omega)).frame (R := _)) ?_
    refine opsI_one (fun _ h => by cases h) rfl ?_
    refine Q.r ?_; (repeat (intro b1; refine Q.r ?_))
    refine opsI_nil ?_
    refine Q.r ?_; (repeat (intro b1; refine Q.r ?_))
    refine ⟨vis ++ [i], ⟨rfl, rfl, trivial⟩, ?_, ⟨hm1, hm2⟩, by simp; omega⟩
    rw [happ]
    exact Go.SX.Ent.go
theorem MapKeysI_spec (mo : Option Nat) (L : List HP) : CallsS Tryz.prog 91 [.map mo] L
    (fun v L' => ∃ bm, v = .func (.func 147) #[] [.pointer (some ⟨bm, 0, none⟩)].toArray ∧ L' = pt bm (cl [.map mo] 187) :: L) := by
  refine CallsS.of_body Tryz.func91 rfl rfl rfl ?_
  refine Q.r ?_; (repeat (intro b1; refine Q.r ?_))
  refine S.y (Y.mf rfl rfl) ?_
  refine Q.r ?_; (repeat (intro b1; refine Q.r ?_))
  exact N.r1 (RV.tmp rfl RV.nil) (Ent.refl _) ⟨_, rfl, rfl⟩
theorem KeysC_spec {α : Type} (rr : α → Value) (bm b : Nat) (m : List (Int × α)) (A : List HP) : SeqS Tryz.prog 179 [.pointer (some ⟨bm, 0, none⟩)] U64 m.length (fun ks => ks.Perm (m.map (·.1)))
    (pt bm (cl [.map (some b)] 186) :: mpO U64 rr b m :: A) (mpO U64 rr b m :: A) := by
  intro l J hJ
  refine CallsS.of_body Tryz.func179 rfl rfl rfl ?_
  refine Q.r ?_; (repeat (intro b1; refine Q.r ?_))
  refine S.rg rfl (fun r => ?_)
  refine Q.r ?_; (repeat (intro b1; refine Q.r ?_))
  refine swp_loop (σ := List Nat) (fun vis => [(0, .func (.yield l) #[] #[]), (5, .pointer (some ⟨r, 0, none⟩))])
    (fun vis => J (vis.filterMap fun i => (m[i]?).map (·.1)) :: itO U64 rr b r m vis :: A) (fun vis => vis.Nodup ∧ ∀ i ∈ vis, i < m.length) (fun vis => m.length - vis.length) [] ⟨rfl, rfl, trivial⟩ (by simp only [List.filterMap_nil]; exact Go.SX.Ent.go) ⟨by simp, by simp⟩ ?_
  rintro vis ⟨hv1, hv2⟩
  refine Q.r ?_; (repeat (intro b1; refine Q.r ?_))
  refine S.nx rfl (fun hend => ?_) (fun i p hp hi => ?_)
  · refine Q.r ?_; (repeat (intro b1; refine Q.r ?_))
    exact N.n0 RV.nil (Ent.cons itO_map) ⟨_, vis_map _ hv1 hv2 hend, rfl⟩
  · have hil : i < m.length := (List.getElem?_eq_some_iff.1 hp).1
    obtain ⟨hm1, hm2, hm3⟩ := vis_more hv1 hv2 hil hi
    have hvl : (vis.filterMap fun i => (m[i]?).map (·.1)).length ≤ vis.length := List.length_filterMap_le _ _
    have happ : ((vis ++ [i]).filterMap fun i => (m[i]?).map (·.1)) = (vis.filterMap fun i => (m[i]?).map (·.1)) ++ [p.1] := by
      rw [List.filterMap_append]; simp [hp]
    refine Q.r ?_; (repeat (intro b1; refine Q.r ?_))
    refine S.y (Y.en rfl hp) ?_
    refine S.y (Y.ext rfl rfl) ?_
    refine S.y (Y.as rfl) ?_
    refine opsS_nil ?_
    refine N.tn ?_
    refine swp_seq ?_
    refine swp_regionI ?_
    refine opsI_one (fun _ h => by cases h) rfl ?_
    refine Q.r ?_; (repeat (intro b1; refine Q.r ?_))
    refine opsI_one (fun _ h => by cases h) rfl ?_
    refine Q.r ?_; (repeat (intro b1; refine Q.r ?_))
    refine opsI_yield rfl rfl ((hJ _ p.1 (by omega)).frame (R := _)) ?_
    refine opsI_one (fun _ h => by cases h) rfl ?_
    refine Q.r ?_; (repeat (intro b1; refine Q.r ?_))
    refine opsI_nil ?_
    refine Q.r ?_; (repeat (intro b1; refine Q.r ?_))
    refine ⟨vis ++ [i], ⟨rfl, rfl, trivial⟩, ?_, ⟨hm1, hm2⟩, by simp; omega⟩
    rw [happ]
    exact Go.SX.Ent.go
theorem MapKeysC_spec (mo : Option Nat) (L : List HP) : CallsS Tryz.prog 159 [.map mo] L
    (fun v L' => ∃ bm, v = .func (.func 179) #[] [.pointer (some ⟨bm, 0, none⟩)].toArray ∧ L' = pt bm (cl [.map mo] 186) :: L) := by
  refine CallsS.of_body Tryz.func159 rfl rfl rfl ?_
  refine Q.r ?_; (repeat (intro b1; refine Q.r ?_))
  refine S.y (Y.mf rfl rfl) ?_
  refine Q.r ?_; (repeat (intro b1; refine Q.r ?_))
  exact N.r1 (RV.tmp rfl RV.nil) (Ent.refl _) ⟨_, rfl, rfl⟩
end Go.Proofs.YtjidejcehmamkaaGreatDoor
namespace Go.Proofs.YtjidejcehmamkaaGreatDoor
open Go Go.SX
attribute [local irreducible] swp opsS thenS blockS retS CallsS St Ent YieldS anyS drawS
attribute [local irreducible] ar
abbrev AR (bk : Nat) (d : Array Int) (rs : List Value) : HP := pt bk (cl (ar .u64 d rs) 30)
abbrev SV (bk n c : Nat) : Value := .slice (some ⟨bk, 0, none⟩) n c
theorem Less_spec (x y : Int) (L : List HP) : CallsS Tryz.prog 190 [.int .u64 x, .int .u64 y] L (fun v L' => v = .bool (Sort.ltInt x y) ∧ L' = L) := by
  have nan : ∀ z, CallsS Tryz.prog 200 [.int .u64 z] L (fun v L' => v = .bool false ∧ L' = L) := fun z => by
    refine CallsS.of_body Tryz.func200 rfl rfl rfl ?_
    refine Q.r ?_; (repeat (intro b1; refine Q.r ?_))
    exact N.r1 (RV.tmp rfl RV.nil) (Ent.refl _) ⟨by simp [packV], rfl⟩
  refine CallsS.of_body Tryz.func190 rfl rfl rfl ?_
  refine Q.r ?_; (repeat (intro b1; refine Q.r ?_))
  refine S.cr rfl (nan x) ?_
  rintro _ _ ⟨rfl, rfl⟩
  refine Q.r ?_; (repeat (intro b1; refine Q.r ?_))
  exact N.r1 (RV.tmp rfl RV.nil) (Ent.refl _) ⟨rfl, rfl⟩
set_option maxHeartbeats 4000000 in
theorem insertionSort_spec (bk n c a b : Nat) (d : Array Int) (rs : List Value) (L : List HP) (hd : d.size = n) (ha : a ≤ n) (hb : b ≤ n) (hn : n ≤ 4611686018427387904) :
    CallsS Tryz.prog 184 [SV bk n c, .int .i64 a, .int .i64 b] (AR bk d rs :: L) (fun v L' => v = .tuple #[] ∧ L' = AR bk (Sort.insertionSort Sort.ltInt d a b) rs :: L) := by
  refine CallsS.of_body Tryz.func184 rfl rfl rfl ?_
  refine Q.rn ?_; (repeat (intro b1; refine Q.rn ?_))
  refine swp_loop (σ := Nat × Array Int) (fun s => [(0, SV bk n c), (1, .int .i64 a), (2, .int .i64 b), (6, .int .i64 s.1)]) (fun s => AR bk s.2 rs :: L)
    (fun s => a + 1 ≤ s.1 ∧ s.1 ≤ n + 1 ∧ s.2.size = n ∧ Sort.insOuter Sort.ltInt a b s.1 s.2 = Sort.insertionSort Sort.ltInt d a b) (fun s => b - s.1) (a + 1, d) ⟨rfl, rfl, rfl, rfl, trivial⟩ (by exact Go.SX.Ent.go) ⟨Nat.le_refl _, by dsimp only; omega, hd, rfl⟩ ?_
  rintro ⟨i, e⟩ ⟨h1, h2, h3, h4⟩
  dsimp only at h1 h2 h3 h4 ⊢
  rw [Sort.insOuter] at h4
  by_cases hi : i < b
  · rw [if_pos hi] at h4
    refine Q.rn ?_; (repeat (intro b1; refine Q.rn ?_))
    refine swp_loop (σ := Nat × Array Int) (fun s => [(0, SV bk n c), (1, .int .i64 a), (2, .int .i64 b), (6, .int .i64 i), (7, .int .i64 s.1)]) (fun s => AR bk s.2 rs :: L)
      (fun s => s.1 ≤ i ∧ s.2.size = n ∧ Sort.insInner Sort.ltInt a s.1 s.2 = Sort.insInner Sort.ltInt a i e) (fun s => s.1) (i, e) ⟨rfl, rfl, rfl, rfl, rfl, trivial⟩ (by exact Go.SX.Ent.go) ⟨Nat.le_refl _, h3, rfl⟩ ?_
    rintro ⟨j, g⟩ ⟨g1, g2, g3⟩
    dsimp only at g1 g2 g3 ⊢
    by_cases hj : a < j
    · obtain ⟨k, rfl⟩ : ∃ k, j = k + 1 := ⟨j - 1, by omega⟩
      rw [Sort.insInner, show decide (k + 1 > a) = true by simpa using hj, Bool.true_and] at g3
      refine Q.rn ?_; (repeat (intro b1; refine Q.rn ?_))
      refine Q.dgo [true] [13] [] [0, 1, 2, 3, 4, 5, 6, 7, 8, 9, 10, 11, 12, 13, 14] ?_
      refine Q.rdn ?_; (repeat (intro b1; refine Q.rdn ?_))
      refine D.e rfl rfl rfl ?_
      refine S.guard rfl ?_
      refine S.cr rfl (Less_spec _ _ _) ?_
      rintro _ M ⟨rfl, rfl⟩
      cases hl : Sort.ltInt g[k + 1]! g[k]! with
      | false =>
        rw [show k + 1 - 1 = k from rfl, hl]
        rw [hl] at g3
        refine Q.rn ?_; (repeat (intro b1; refine Q.rn ?_))
        refine Q.rdn ?_; (repeat (intro b1; refine Q.rdn ?_))
        refine Q.rn ?_; (repeat (intro b1; refine Q.rn ?_))
        refine ⟨(i + 1, g), ⟨rfl, rfl, rfl, rfl, trivial⟩, by exact Go.SX.Ent.go, ⟨by dsimp only; omega, by dsimp only; omega, g2, ?_⟩, by dsimp only; omega⟩
        simp only [Bool.false_eq_true, if_false] at g3
        rw [g3]; exact h4
      | true =>
        rw [show k + 1 - 1 = k from rfl, hl]
        rw [hl] at g3
        refine Q.rn ?_; (repeat (intro b1; refine Q.rn ?_))
        refine Q.rdn ?_; (repeat (intro b1; refine Q.rdn ?_))
        refine Q.rn ?_; (repeat (intro b1; refine Q.rn ?_))
        refine Q.dgo [true] [15, 17] [15] [0, 1, 2, 3, 4, 5, 6, 7, 8, 9, 10, 11, 12, 13, 14, 15, 16, 17] ?_
        refine Q.rdn ?_; (repeat (intro b1; refine Q.rdn ?_))
        refine Q.dc rfl rfl rfl rfl ?_
        refine Q.rn ?_; (repeat (intro b1; refine Q.rn ?_))
        refine Q.rdn ?_; (repeat (intro b1; refine Q.rdn ?_))
        refine D.e rfl rfl rfl ?_
        refine Q.rn ?_; (repeat (intro b1; refine Q.rn ?_))
        refine Q.rdn ?_; (repeat (intro b1; refine Q.rdn ?_))
        refine Q.rn ?_; (repeat (intro b1; refine Q.rn ?_))
        simp only [if_true] at g3
        exact ⟨(k, Sort.swp g (k + 1) k), ⟨rfl, rfl, rfl, rfl, rfl, trivial⟩, Ent.refl _, ⟨by dsimp only; omega, by rw [swp_size]; exact g2, g3⟩, by dsimp only; omega⟩
    · have hgg : Sort.insInner Sort.ltInt a j g = g := by
        cases j with
        | zero => rfl
        | succ j => rw [Sort.insInner, show decide (j + 1 > a) = false by simpa using hj]; simp
      rw [hgg] at g3
      refine Q.rn ?_; (repeat (intro b1; refine Q.rn ?_))
      refine Q.dgo [true] [13] [] [0, 1, 2, 3, 4, 5, 6, 7, 8, 9, 10, 11, 12, 13, 14] ?_
      refine Q.rdn ?_; (repeat (intro b1; refine Q.rdn ?_))
      refine Q.rn ?_; (repeat (intro b1; refine Q.rn ?_))
      exact ⟨(i + 1, g), ⟨rfl, rfl, rfl, rfl, trivial⟩, Ent.refl _, ⟨by dsimp only; omega, by dsimp only; omega, g2, by dsimp only; rw [g3]; exact h4⟩, by dsimp only; omega⟩
  · rw [if_neg hi] at h4
    subst h4
    refine Q.rn ?_; (repeat (intro b1; refine Q.rn ?_))
    exact N.n0 RV.nil (Ent.refl _) ⟨rfl, rfl⟩
end Go.Proofs.YtjidejcehmamkaaGreatDoor
namespace Go.Proofs.YtjidejcehmamkaaGreatDoor
open Go Go.SX
attribute [local irreducible] swp opsS thenS blockS retS CallsS St Ent YieldS anyS drawS
attribute [local irreducible] ar
set_option maxHeartbeats 8000000 in
theorem siftDown_spec (bk n c lo hi first : Nat) (d : Array Int) (rs : List Value) (L : List HP) (hd : d.size = n) (hlo : lo ≤ hi) (hb : first + hi ≤ n) (hn : n ≤ 17592186044416) :
    CallsS Tryz.prog 195 [SV bk n c, .int .i64 lo, .int .i64 hi, .int .i64 first] (AR bk d rs :: L) (fun v L' => v = .tuple #[] ∧ L' = AR bk (Sort.siftDown Sort.ltInt hi first lo d) rs :: L) := by
  refine CallsS.of_body Tryz.func195 rfl rfl rfl ?_
  refine Q.rn ?_; (repeat (intro b1; refine Q.rn ?_))
  refine swp_loop (σ := Nat × Array Int) (fun s => [(0, SV bk n c), (2, .int .i64 hi), (3, .int .i64 first), (8, .int .i64 s.1)]) (fun s => AR bk s.2 rs :: L)
    (fun s => s.1 ≤ hi ∧ s.2.size = n ∧ Sort.siftDown Sort.ltInt hi first s.1 s.2 = Sort.siftDown Sort.ltInt hi first lo d) (fun s => hi - s.1) (lo, d) ⟨rfl, rfl, rfl, rfl, trivial⟩ (by exact Go.SX.Ent.go) ⟨hlo, hd, rfl⟩ ?_
  rintro ⟨r, e⟩ ⟨h1, h2, h3⟩
  dsimp only at h1 h2 h3 ⊢
  rw [Sort.siftDown] at h3
  by_cases hr : 2 * r + 1 ≥ hi
  · rw [dif_pos hr] at h3
    subst h3
    refine Q.rn ?_; (repeat (intro b1; refine Q.rn ?_))
    exact N.n0 RV.nil (Ent.refl _) ⟨rfl, rfl⟩
  rw [dif_neg hr] at h3
  refine Q.rn ?_; (repeat (intro b1; refine Q.rn ?_))
  refine swp_cutT (σ := Bool) (fun s => [(0, SV bk n c), (2, .int .i64 hi), (3, .int .i64 first), (8, .int .i64 r), (9, .int .i64 (2 * r + 1 : Nat)), (36, .bool s)]) (fun s => AR bk e rs :: L)
    (fun s => s = (decide (2 * r + 1 + 1 < hi) && Sort.ltInt e[first + (2 * r + 1)]! e[first + (2 * r + 1) + 1]!)) ?_ ?_
  · by_cases hc : 2 * r + 1 + 1 < hi
    · refine Q.dgo [true] [18] [] [0, 1, 2, 3, 4, 5, 6, 7, 8, 9, 10, 11, 12, 13, 14, 15, 16, 17, 18, 19] ?_
      refine Q.rdn ?_; (repeat (intro b1; refine Q.rdn ?_))
      refine D.e rfl rfl rfl ?_
      refine S.guard rfl ?_
      refine S.cr rfl (Less_spec _ _ _) ?_
      rintro _ M ⟨rfl, rfl⟩
      refine Q.rn ?_; (repeat (intro b1; refine Q.rn ?_))
      refine Q.rdn ?_; (repeat (intro b1; refine Q.rdn ?_))
      first | refine N.tn ?_ | skip
      exact ⟨_, ⟨rfl, rfl, rfl, rfl, rfl, rfl, trivial⟩, Ent.refl _, by simp [hc]⟩
    · refine Q.dgo [true] [18] [] [0, 1, 2, 3, 4, 5, 6, 7, 8, 9, 10, 11, 12, 13, 14, 15, 16, 17, 18, 19] ?_
      refine Q.rdn ?_; (repeat (intro b1; refine Q.rdn ?_))
      first | refine N.tn ?_ | skip
      exact ⟨false, ⟨rfl, rfl, rfl, rfl, rfl, rfl, trivial⟩, Ent.refl _, by simp [hc]⟩
  intro s hs
  refine swp_cutT (σ := Nat) (fun ch => [(0, SV bk n c), (2, .int .i64 hi), (3, .int .i64 first), (8, .int .i64 r), (9, .int .i64 ch)]) (fun _ => AR bk e rs :: L)
    (fun ch => ch < hi ∧ r < ch ∧ (if (!Sort.ltInt e[first + r]! e[first + ch]!) = true then e else Sort.siftDown Sort.ltInt hi first ch (Sort.swp e (first + r) (first + ch))) = Sort.siftDown Sort.ltInt hi first lo d) ?_ ?_
  · rw [← hs] at h3
    cases s with
    | true =>
      have hc : 2 * r + 1 + 1 < hi := by
        by_cases hc : 2 * r + 1 + 1 < hi
        · exact hc
        · simp [hc] at hs
      rw [if_pos rfl, dif_pos (show 2 * r + 2 < hi from hc)] at h3
      refine Q.rn ?_; (repeat (intro b1; refine Q.rn ?_))
      first | refine N.tn ?_ | skip
      exact ⟨2 * r + 1 + 1, ⟨rfl, rfl, rfl, rfl, rfl, trivial⟩, Ent.refl _, hc, by omega, h3⟩
    | false =>
      simp only [Bool.false_eq_true, if_false] at h3
      refine Q.rn ?_; (repeat (intro b1; refine Q.rn ?_))
      first | refine N.tn ?_ | skip
      exact ⟨2 * r + 1, ⟨rfl, rfl, rfl, rfl, rfl, trivial⟩, Ent.refl _, by omega, by omega, h3⟩
  rintro ch ⟨c1, c2, c3⟩
  clear hs h3
  refine Q.rn ?_; (repeat (intro b1; refine Q.rn ?_))
  refine Q.dgo [true] [12] [] [0, 1, 2, 3, 4, 5, 6, 7, 8, 9, 10, 11, 12, 13] ?_
  refine Q.rdn ?_; (repeat (intro b1; refine Q.rdn ?_))
  refine D.e rfl rfl rfl ?_
  refine S.cr rfl (Less_spec _ _ _) ?_
  rintro _ M ⟨rfl, rfl⟩
  cases hl : Sort.ltInt e[first + r]! e[first + ch]! with
  | false =>
    rw [hl] at c3
    simp only [Bool.not_false, if_true] at c3
    subst c3
    refine Q.rn ?_; (repeat (intro b1; refine Q.rn ?_))
    refine Q.rdn ?_; (repeat (intro b1; refine Q.rdn ?_))
    refine Q.rn ?_; (repeat (intro b1; refine Q.rn ?_))
    exact N.r0 RV.nil (Ent.refl _) ⟨rfl, rfl⟩
  | true =>
    rw [hl] at c3
    simp only [Bool.not_true, Bool.false_eq_true, if_false] at c3
    refine Q.rn ?_; (repeat (intro b1; refine Q.rn ?_))
    refine Q.rdn ?_; (repeat (intro b1; refine Q.rdn ?_))
    refine Q.rn ?_; (repeat (intro b1; refine Q.rn ?_))
    refine Q.dgo [true] [21, 23] [21] [0, 1, 2, 3, 4, 5, 6, 7, 8, 9, 10, 11, 12, 13, 14, 15, 16, 17, 18, 19, 20, 21, 22, 23] ?_
    refine Q.rdn ?_; (repeat (intro b1; refine Q.rdn ?_))
    refine Q.dc rfl rfl rfl rfl ?_
    refine Q.rn ?_; (repeat (intro b1; refine Q.rn ?_))
    refine Q.rdn ?_; (repeat (intro b1; refine Q.rdn ?_))
    refine D.e rfl rfl rfl ?_
    refine Q.rn ?_; (repeat (intro b1; refine Q.rn ?_))
    refine Q.rdn ?_; (repeat (intro b1; refine Q.rdn ?_))
    refine Q.rn ?_; (repeat (intro b1; refine Q.rn ?_))
    exact ⟨(ch, Sort.swp e (first + r) (first + ch)), ⟨rfl, rfl, rfl, rfl, trivial⟩, Ent.refl _, ⟨by dsimp only; omega, by rw [swp_size]; exact h2, c3⟩, by dsimp only; omega⟩
theorem siftDown_size : ∀ (hi first root : Nat) (d : Array Int), (Sort.siftDown Sort.ltInt hi first root d).size = d.size := by
  intro hi first root d
  induction h : hi - root using Nat.strongRecOn generalizing root d with
  | _ k ih =>
    rw [Sort.siftDown]
    split
    · rfl
    · split
      · split
        · rfl
        · split
          · rw [ih _ (by omega) _ _ rfl, swp_size]
          · rfl
      · split
        · rfl
        · rw [ih _ (by omega) _ _ rfl, swp_size]
end Go.Proofs.YtjidejcehmamkaaGreatDoor
namespace Go.Proofs.YtjidejcehmamkaaGreatDoor
open Go Go.SX
attribute [local irreducible] swp opsS thenS blockS retS CallsS St Ent YieldS anyS drawS
attribute [local irreducible] ar
set_option maxHeartbeats 8000000 in
theorem heapSort_spec (bk n c a b : Nat) (d : Array Int) (rs : List Value) (L : List HP) (hd : d.size = n) (ha : a < b) (hb : b ≤ n) (hn : n ≤ 17592186044416) :
    CallsS Tryz.prog 185 [SV bk n c, .int .i64 a, .int .i64 b] (AR bk d rs :: L) (fun v L' => v = .tuple #[] ∧ L' = AR bk (Sort.heapSort Sort.ltInt d a b) rs :: L) := by
  refine CallsS.of_body Tryz.func185 rfl rfl rfl ?_
  refine Q.rn ?_; (repeat (intro b1; refine Q.rn ?_))
  have hsub : ∀ k : Nat, ((k + 1 : Nat) : Int) - 1 = (k : Int) := fun k => by omega
  refine swp_cutB (σ := Array Int) (fun _ => [(0, SV bk n c), (6, .int .i64 a), (7, .int .i64 (0 : Nat)), (8, .int .i64 (b - a : Nat))]) (fun e => AR bk e rs :: L)
    (fun e => e.size = n ∧ e = Sort.heapBuild Sort.ltInt (b - a) a ((b - a - 1) / 2 + 1) d) ?_ ?_
  · refine swp_loop (σ := Nat × Array Int) (fun s => [(0, SV bk n c), (6, .int .i64 a), (7, .int .i64 (0 : Nat)), (8, .int .i64 (b - a : Nat)), (9, .int .i64 ((s.1 : Int) - 1))]) (fun s => AR bk s.2 rs :: L)
      (fun s => s.1 ≤ b - a ∧ s.2.size = n ∧ Sort.heapBuild Sort.ltInt (b - a) a s.1 s.2 = Sort.heapBuild Sort.ltInt (b - a) a ((b - a - 1) / 2 + 1) d) (fun s => s.1) ((b - a - 1) / 2 + 1, d) ⟨rfl, rfl, rfl, rfl, congrArg some (congrArg (Value.int .i64) (by omega)), trivial⟩ (by exact Go.SX.Ent.go) ⟨by dsimp only; omega, hd, rfl⟩ ?_
    rintro ⟨k, e⟩ ⟨h1, h2, h3⟩
    dsimp only at h1 h2 h3 ⊢
    cases k with
    | zero =>
      refine Q.rn ?_; (repeat (intro b1; refine Q.rn ?_))
      exact ⟨e, ⟨rfl, rfl, rfl, rfl, trivial⟩, Ent.refl _, h2, h3⟩
    | succ k =>
      rw [hsub]
      refine Q.rn ?_; (repeat (intro b1; refine Q.rn ?_))
      refine S.cr rfl (siftDown_spec bk n c k (b - a) a e rs L h2 (by omega) (by omega) hn) ?_
      rintro _ _ ⟨rfl, rfl⟩
      refine Q.rn ?_; (repeat (intro b1; refine Q.rn ?_))
      exact ⟨(k, _), ⟨rfl, rfl, rfl, rfl, rfl, trivial⟩, Ent.refl _, ⟨by dsimp only; omega, by rw [siftDown_size]; exact h2, h3⟩, by dsimp only; omega⟩
  rintro e ⟨h2, rfl⟩
  refine Q.rn ?_; (repeat (intro b1; refine Q.rn ?_))
  refine swp_loop (σ := Nat × Array Int) (fun s => [(0, SV bk n c), (6, .int .i64 a), (7, .int .i64 (0 : Nat)), (10, .int .i64 ((s.1 : Int) - 1))]) (fun s => AR bk s.2 rs :: L)
    (fun s => s.1 ≤ b - a ∧ s.2.size = n ∧ Sort.heapPop Sort.ltInt a s.1 s.2 = Sort.heapSort Sort.ltInt d a b) (fun s => s.1) (b - a, Sort.heapBuild Sort.ltInt (b - a) a ((b - a - 1) / 2 + 1) d) ⟨rfl, rfl, rfl, congrArg some (congrArg (Value.int .i64) (by omega)), trivial⟩ (by exact Go.SX.Ent.go) ⟨Nat.le_refl _, h2, rfl⟩ ?_
  clear h2
  rintro ⟨k, e⟩ ⟨h1, h2, h3⟩
  dsimp only at h1 h2 h3 ⊢
  cases k with
  | zero =>
    refine Q.rn ?_; (repeat (intro b1; refine Q.rn ?_))
    exact N.n0 RV.nil (Ent.refl _) ⟨rfl, by rw [← h3]; rfl⟩
  | succ k =>
    rw [hsub]
    refine Q.rn ?_; (repeat (intro b1; refine Q.rn ?_))
    refine Q.dgo [true] [17, 19] [17] [0, 1, 2, 3, 4, 5, 6, 7, 8, 9, 10, 11, 12, 13, 14, 15, 16, 17, 18, 19] ?_
    refine Q.rdn ?_; (repeat (intro b1; refine Q.rdn ?_))
    refine Q.dc rfl rfl rfl rfl ?_
    refine Q.rn ?_; (repeat (intro b1; refine Q.rn ?_))
    refine Q.rdn ?_; (repeat (intro b1; refine Q.rdn ?_))
    refine D.e rfl rfl rfl ?_
    refine Q.rn ?_; (repeat (intro b1; refine Q.rn ?_))
    refine Q.rdn ?_; (repeat (intro b1; refine Q.rdn ?_))
    refine Q.rn ?_; (repeat (intro b1; refine Q.rn ?_))
    refine S.cr rfl (siftDown_spec bk n c 0 k a (Sort.swp e a (a + k)) rs L (by rw [swp_size]; exact h2) (by omega) (by omega) hn) ?_
    rintro _ _ ⟨rfl, rfl⟩
    refine Q.rn ?_; (repeat (intro b1; refine Q.rn ?_))
    exact ⟨(k, _), ⟨rfl, rfl, rfl, rfl, trivial⟩, Ent.refl _, ⟨by dsimp only; omega, by rw [siftDown_size, swp_size]; exact h2, h3⟩, by dsimp only; omega⟩
set_option maxHeartbeats 8000000 in
theorem reverseRange_spec (bk n c a b : Nat) (d : Array Int) (rs : List Value) (L : List HP) (hd : d.size = n) (ha : a < b) (hb : b ≤ n) (hn : n ≤ 17592186044416) :
    CallsS Tryz.prog 188 [SV bk n c, .int .i64 a, .int .i64 b] (AR bk d rs :: L) (fun v L' => v = .tuple #[] ∧ L' = AR bk (Sort.reverseRange d a b) rs :: L) := by
  refine CallsS.of_body Tryz.func188 rfl rfl rfl ?_
  refine Q.rn ?_; (repeat (intro b1; refine Q.rn ?_))
  refine swp_loop (σ := Nat × Nat × Array Int) (fun s => [(0, SV bk n c), (6, .int .i64 s.1), (7, .int .i64 s.2.1)]) (fun s => AR bk s.2.2 rs :: L)
    (fun s => s.1 ≤ b ∧ s.2.1 < b ∧ s.2.2.size = n ∧ Sort.reverseLoop s.1 s.2.1 s.2.2 = Sort.reverseRange d a b) (fun s => s.2.1 - s.1) (a, b - 1, d) ⟨rfl, rfl, rfl, trivial⟩ (by exact Go.SX.Ent.go) ⟨by dsimp only; omega, by dsimp only; omega, hd, rfl⟩ ?_
  rintro ⟨i, j, e⟩ ⟨h1, h2, h3, h4⟩
  dsimp only at h1 h2 h3 h4 ⊢
  rw [Sort.reverseLoop] at h4
  by_cases hij : i < j
  · rw [if_pos hij] at h4
    refine Q.rn ?_; (repeat (intro b1; refine Q.rn ?_))
    refine Q.dgo [true] [13, 15] [13] [0, 1, 2, 3, 4, 5, 6, 7, 8, 9, 10, 11, 12, 13, 14, 15] ?_
    refine Q.rdn ?_; (repeat (intro b1; refine Q.rdn ?_))
    refine Q.dc rfl rfl rfl rfl ?_
    refine Q.rn ?_; (repeat (intro b1; refine Q.rn ?_))
    refine Q.rdn ?_; (repeat (intro b1; refine Q.rdn ?_))
    refine D.e rfl rfl rfl ?_
    refine Q.rn ?_; (repeat (intro b1; refine Q.rn ?_))
    refine Q.rdn ?_; (repeat (intro b1; refine Q.rdn ?_))
    refine Q.rn ?_; (repeat (intro b1; refine Q.rn ?_))
    exact ⟨(i + 1, j - 1, Sort.swp e i j), ⟨rfl, rfl, rfl, trivial⟩, Ent.refl _, ⟨by dsimp only; omega, by dsimp only; omega, by rw [swp_size]; exact h3, h4⟩, by dsimp only; omega⟩
  · rw [if_neg hij] at h4
    subst h4
    refine Q.rn ?_; (repeat (intro b1; refine Q.rn ?_))
    exact N.n0 RV.nil (Ent.refl _) ⟨rfl, rfl⟩
end Go.Proofs.YtjidejcehmamkaaGreatDoor
namespace Go.Proofs.YtjidejcehmamkaaGreatDoor
open Go Go.SX
attribute [local irreducible] swp opsS thenS blockS retS CallsS St Ent YieldS anyS drawS
attribute [local irreducible] ar
theorem scanUp_ge (p : Int → Bool) (d : Array Int) (j i : Nat) : i ≤ Sort.scanUp p d j i ∧ (Sort.scanUp p d j i ≤ i ∨ Sort.scanUp p d j i ≤ j + 1) := by
  induction h : j + 1 - i using Nat.strongRecOn generalizing i with
  | _ k ih =>
    rw [Sort.scanUp]
    split
    · rename_i hc
      simp only [Bool.and_eq_true, decide_eq_true_eq] at hc
      have := ih _ (by omega) (i + 1) rfl
      omega
    · omega
theorem scanDown_le (p : Int → Bool) (d : Array Int) (i : Nat) : ∀ j, Sort.scanDown p d i j ≤ j ∧ (i ≤ Sort.scanDown p d i j + 1 ∨ Sort.scanDown p d i j = j)
  | 0 => by simp [Sort.scanDown]
  | j + 1 => by
    rw [Sort.scanDown]
    split
    · rename_i hc
      simp only [Bool.and_eq_true, decide_eq_true_eq] at hc
      have := scanDown_le p d i j
      omega
    · omega
set_option maxHeartbeats 20000000 in
theorem partition_spec (bk n c a b pv : Nat) (d : Array Int) (rs : List Value) (L : List HP) (hd : d.size = n) (ha : a ≤ pv) (hp : pv < b) (hb : b ≤ n) (hn : n ≤ 17592186044416) :
    CallsS Tryz.prog 192 [SV bk n c, .int .i64 a, .int .i64 b, .int .i64 pv] (AR bk d rs :: L)
      (fun v L' => v = .tuple #[.int .i64 (Sort.partition Sort.ltInt d a b pv).1, .bool (Sort.partition Sort.ltInt d a b pv).2.1] ∧ L' = AR bk (Sort.partition Sort.ltInt d a b pv).2.2 rs :: L) := by
  refine CallsS.of_body Tryz.func192 rfl rfl rfl ?_
  refine Q.rn ?_; (repeat (intro b1; refine Q.rn ?_))
  refine Q.dgo [true] [13, 15] [13] [0, 1, 2, 3, 4, 5, 6, 7, 8, 9, 10, 11, 12, 13, 14, 15] ?_; (refine Q.rdn ?_; (repeat (intro b1; refine Q.rdn ?_))); refine Q.dc rfl rfl rfl rfl ?_; (refine Q.rn ?_; (repeat (intro b1; refine Q.rn ?_))); (refine Q.rdn ?_; (repeat (intro b1; refine Q.rdn ?_))); refine D.e rfl rfl rfl ?_; (refine Q.rn ?_; (repeat (intro b1; refine Q.rn ?_))); (refine Q.rdn ?_; (repeat (intro b1; refine Q.rdn ?_))); (refine Q.rn ?_; (repeat (intro b1; refine Q.rn ?_)))
  have he : (Sort.swp d a pv).size = n := by rw [swp_size]; exact hd
  obtain ⟨e, hee⟩ : ∃ e, e = Sort.swp d a pv := ⟨_, rfl⟩
  obtain ⟨i0, hi0⟩ : ∃ i0, i0 = Sort.scanUp (fun x => Sort.ltInt x e[a]!) e (b - 1) (a + 1) := ⟨_, rfl⟩
  obtain ⟨j0, hj0⟩ : ∃ j0, j0 = Sort.scanDown (fun x => !Sort.ltInt x e[a]!) e i0 (b - 1) := ⟨_, rfl⟩
  have hpart : Sort.partition Sort.ltInt d a b pv = (if i0 > j0 then (j0, true, Sort.swp e j0 a) else ((Sort.partLoop Sort.ltInt a (i0 + 1) (j0 - 1) (Sort.swp e i0 j0)).1, false, Sort.swp (Sort.partLoop Sort.ltInt a (i0 + 1) (j0 - 1) (Sort.swp e i0 j0)).2 (Sort.partLoop Sort.ltInt a (i0 + 1) (j0 - 1) (Sort.swp e i0 j0)).1 a)) := by
    subst hee hj0 hi0; rfl
  rw [← hee] at he
  rw [hpart]
  clear hpart
  have bi := scanUp_ge (fun x => Sort.ltInt x e[a]!) e (b - 1) (a + 1)
  have bj := scanDown_le (fun x => !Sort.ltInt x e[a]!) e i0 (b - 1)
  rw [← hi0] at bi
  rw [← hj0] at bj
  refine swp_cutB (σ := Unit) (fun _ => [(0, SV bk n c), (1, .int .i64 a), (10, .int .i64 i0), (11, .int .i64 (b - 1 : Nat))]) (fun _ => AR bk e rs :: L) (fun _ => True) ?_ ?_
  · refine swp_loop (σ := Nat) (fun s => [(0, SV bk n c), (1, .int .i64 a), (10, .int .i64 s), (11, .int .i64 (b - 1 : Nat))]) (fun s => AR bk e rs :: L)
      (fun s => a + 1 ≤ s ∧ Sort.scanUp (fun x => Sort.ltInt x e[a]!) e (b - 1 : Nat) s = i0) (fun s => (b - 1 : Nat) + 1 - s) (a + 1) ⟨rfl, rfl, rfl, rfl, trivial⟩ (by rw [hee]; exact Ent.refl _) ⟨Nat.le_refl _, hi0.symm⟩ ?_
    rintro i ⟨g1, g3⟩
    rw [Sort.scanUp] at g3
    by_cases hi : i ≤ (b - 1 : Nat)
    · refine Q.rn ?_; (repeat (intro b1; refine Q.rn ?_))
      refine Q.dgo [true] [12] [] [0, 1, 2, 3, 4, 5, 6, 7, 8, 9, 10, 11, 12, 13] ?_
      refine Q.rdn ?_; (repeat (intro b1; refine Q.rdn ?_))
      refine D.e rfl rfl rfl ?_
      refine S.guard rfl ?_
      refine S.cr rfl (Less_spec _ _ _) ?_
      rintro _ M ⟨rfl, rfl⟩
      rw [show decide (i ≤ (b - 1 : Nat)) = true by simpa using hi, Bool.true_and] at g3
      cases hl : Sort.ltInt e[i]! e[a]! with
      | true =>
        rw [hl] at g3
        simp only [Bool.not_false, Bool.not_true, if_true] at g3
        refine Q.rn ?_; (repeat (intro b1; refine Q.rn ?_))
        refine Q.rdn ?_; (repeat (intro b1; refine Q.rdn ?_))
        refine Q.rn ?_; (repeat (intro b1; refine Q.rn ?_))
        exact ⟨i + 1, ⟨rfl, rfl, rfl, rfl, trivial⟩, Ent.refl _, ⟨by omega, g3⟩, by omega⟩
      | false =>
        rw [hl] at g3
        simp only [Bool.not_false, Bool.not_true, Bool.false_eq_true, if_false] at g3
        refine Q.rn ?_; (repeat (intro b1; refine Q.rn ?_))
        refine Q.rdn ?_; (repeat (intro b1; refine Q.rdn ?_))
        refine Q.rn ?_; (repeat (intro b1; refine Q.rn ?_))
        exact ⟨(), ⟨rfl, rfl, by rw [g3]; rfl, rfl, trivial⟩, Ent.refl _, trivial⟩
    · rw [show decide (i ≤ (b - 1 : Nat)) = false by simpa using hi, Bool.false_and] at g3
      simp only [Bool.false_eq_true, if_false] at g3
      refine Q.rn ?_; (repeat (intro b1; refine Q.rn ?_))
      refine Q.dgo [true] [12] [] [0, 1, 2, 3, 4, 5, 6, 7, 8, 9, 10, 11, 12, 13] ?_
      refine Q.rdn ?_; (repeat (intro b1; refine Q.rdn ?_))
      refine Q.rn ?_; (repeat (intro b1; refine Q.rn ?_))
      exact ⟨(), ⟨rfl, rfl, by rw [g3]; rfl, rfl, trivial⟩, Ent.refl _, trivial⟩
  rintro _ _
  refine Q.rn ?_; (repeat (intro b1; refine Q.rn ?_))
  refine swp_cutB (σ := Unit) (fun _ => [(0, SV bk n c), (1, .int .i64 a), (10, .int .i64 i0), (11, .int .i64 j0)]) (fun _ => AR bk e rs :: L) (fun _ => True) ?_ ?_
  · refine swp_loop (σ := Nat) (fun s => [(0, SV bk n c), (1, .int .i64 a), (10, .int .i64 i0), (11, .int .i64 s)]) (fun s => AR bk e rs :: L)
      (fun s => s ≤ (b - 1 : Nat) ∧ Sort.scanDown (fun x => !Sort.ltInt x e[a]!) e i0 s = j0) (fun s => s) ((b - 1 : Nat)) ⟨rfl, rfl, rfl, rfl, trivial⟩ (Ent.refl _) ⟨Nat.le_refl _, hj0.symm⟩ ?_
    rintro j ⟨g1, g3⟩
    by_cases hi : i0 ≤ j
    · obtain ⟨k, rfl⟩ : ∃ k, j = k + 1 := ⟨j - 1, by omega⟩
      rw [Sort.scanDown] at g3
      refine Q.rn ?_; (repeat (intro b1; refine Q.rn ?_))
      refine Q.dgo [true] [12] [] [0, 1, 2, 3, 4, 5, 6, 7, 8, 9, 10, 11, 12, 13, 14] ?_
      refine Q.rdn ?_; (repeat (intro b1; refine Q.rdn ?_))
      refine D.e rfl rfl rfl ?_
      refine S.guard rfl ?_
      refine S.cr rfl (Less_spec _ _ _) ?_
      rintro _ M ⟨rfl, rfl⟩
      rw [show decide (i0 ≤ k + 1) = true by simpa using hi, Bool.true_and] at g3
      cases hl : Sort.ltInt e[k + 1]! e[a]! with
      | false =>
        rw [hl] at g3
        simp only [Bool.not_false, Bool.not_true, if_true] at g3
        refine Q.rn ?_; (repeat (intro b1; refine Q.rn ?_))
        refine Q.rdn ?_; (repeat (intro b1; refine Q.rdn ?_))
        refine Q.rn ?_; (repeat (intro b1; refine Q.rn ?_))
        exact ⟨k, ⟨rfl, rfl, rfl, rfl, trivial⟩, Ent.refl _, ⟨by omega, g3⟩, by omega⟩
      | true =>
        rw [hl] at g3
        simp only [Bool.not_false, Bool.not_true, Bool.false_eq_true, if_false] at g3
        refine Q.rn ?_; (repeat (intro b1; refine Q.rn ?_))
        refine Q.rdn ?_; (repeat (intro b1; refine Q.rdn ?_))
        refine Q.rn ?_; (repeat (intro b1; refine Q.rn ?_))
        exact ⟨(), ⟨rfl, rfl, rfl, by rw [← g3]; rfl, trivial⟩, Ent.refl _, trivial⟩
    · have g4 : j = j0 := by
        rw [← g3]
        cases j with
        | zero => rfl
        | succ j => rw [Sort.scanDown, show decide (i0 ≤ j + 1) = false by simpa using hi]; simp
      refine Q.rn ?_; (repeat (intro b1; refine Q.rn ?_))
      refine Q.dgo [true] [12] [] [0, 1, 2, 3, 4, 5, 6, 7, 8, 9, 10, 11, 12, 13, 14] ?_
      refine Q.rdn ?_; (repeat (intro b1; refine Q.rdn ?_))
      refine Q.rn ?_; (repeat (intro b1; refine Q.rn ?_))
      exact ⟨(), ⟨rfl, rfl, rfl, by rw [g4]; rfl, trivial⟩, Ent.refl _, trivial⟩
  rintro _ _
  by_cases hgt : i0 > j0
  · rw [if_pos hgt]
    refine Q.rn ?_; (repeat (intro b1; refine Q.rn ?_))
    refine Q.dgo [true] [13, 15] [13] [0, 1, 2, 3, 4, 5, 6, 7, 8, 9, 10, 11, 12, 13, 14, 15] ?_; (refine Q.rdn ?_; (repeat (intro b1; refine Q.rdn ?_))); refine Q.dc rfl rfl rfl rfl ?_; (refine Q.rn ?_; (repeat (intro b1; refine Q.rn ?_))); (refine Q.rdn ?_; (repeat (intro b1; refine Q.rdn ?_))); refine D.e rfl rfl rfl ?_; (refine Q.rn ?_; (repeat (intro b1; refine Q.rn ?_))); (refine Q.rdn ?_; (repeat (intro b1; refine Q.rdn ?_))); (refine Q.rn ?_; (repeat (intro b1; refine Q.rn ?_)))
    exact N.r2 (RV.tmp rfl (RV.tmp rfl RV.nil)) (Ent.refl _) ⟨rfl, rfl⟩
  rw [if_neg hgt]
  refine Q.rn ?_; (repeat (intro b1; refine Q.rn ?_))
  refine Q.dgo [true] [13, 15] [13] [0, 1, 2, 3, 4, 5, 6, 7, 8, 9, 10, 11, 12, 13, 14, 15] ?_; (refine Q.rdn ?_; (repeat (intro b1; refine Q.rdn ?_))); refine Q.dc rfl rfl rfl rfl ?_; (refine Q.rn ?_; (repeat (intro b1; refine Q.rn ?_))); (refine Q.rdn ?_; (repeat (intro b1; refine Q.rdn ?_))); refine D.e rfl rfl rfl ?_; (refine Q.rn ?_; (repeat (intro b1; refine Q.rn ?_))); (refine Q.rdn ?_; (repeat (intro b1; refine Q.rdn ?_))); (refine Q.rn ?_; (repeat (intro b1; refine Q.rn ?_)))
  obtain ⟨pr, hpr⟩ : ∃ pr, pr = Sort.partLoop Sort.ltInt a (i0 + 1) (j0 - 1) (Sort.swp e i0 j0) := ⟨_, rfl⟩
  rw [← hpr]
  refine swp_cutB (σ := Unit) (fun _ => [(0, SV bk n c), (1, .int .i64 a), (11, .int .i64 pr.1)]) (fun _ => AR bk pr.2 rs :: L) (fun _ => pr.1 < b ∧ pr.2.size = n) ?_ ?_
  · refine swp_loop (σ := Nat × Nat × Array Int) (fun s => [(0, SV bk n c), (1, .int .i64 a), (10, .int .i64 s.1), (11, .int .i64 s.2.1)]) (fun s => AR bk s.2.2 rs :: L)
      (fun s => a + 1 ≤ s.1 ∧ s.1 ≤ b + 1 ∧ s.2.1 < b ∧ s.2.2.size = n ∧ Sort.partLoop Sort.ltInt a s.1 s.2.1 s.2.2 = pr) (fun s => s.2.1 + 1 - s.1) (i0 + 1, j0 - 1, Sort.swp e i0 j0) ⟨rfl, rfl, rfl, rfl, trivial⟩ (Ent.refl _) ⟨by dsimp only; omega, by dsimp only; omega, by dsimp only; omega, by rw [swp_size]; exact he, hpr.symm⟩ ?_
    clear hpr hgt bj bi hj0 hi0 hee he e i0 j0
    rintro ⟨i1, j1, e⟩ ⟨k1, k2, k3, he, k5⟩
    dsimp only at k1 k2 k3 he k5 ⊢
    obtain ⟨i0, hi0⟩ : ∃ i0, i0 = Sort.scanUp (fun x => Sort.ltInt x e[a]!) e j1 i1 := ⟨_, rfl⟩
    obtain ⟨j0, hj0⟩ : ∃ j0, j0 = Sort.scanDown (fun x => !Sort.ltInt x e[a]!) e i0 j1 := ⟨_, rfl⟩
    have bi := scanUp_ge (fun x => Sort.ltInt x e[a]!) e j1 i1
    have bj := scanDown_le (fun x => !Sort.ltInt x e[a]!) e i0 j1
    rw [← hi0] at bi
    rw [← hj0] at bj
    rw [Sort.partLoop] at k5
    simp only [← hi0, ← hj0] at k5
    refine Q.rn ?_; (repeat (intro b1; refine Q.rn ?_))
    refine swp_cutB (σ := Unit) (fun _ => [(0, SV bk n c), (1, .int .i64 a), (10, .int .i64 i0), (11, .int .i64 j1)]) (fun _ => AR bk e rs :: L) (fun _ => True) ?_ ?_
    · refine swp_loop (σ := Nat) (fun s => [(0, SV bk n c), (1, .int .i64 a), (10, .int .i64 s), (11, .int .i64 j1)]) (fun s => AR bk e rs :: L)
        (fun s => i1 ≤ s ∧ Sort.scanUp (fun x => Sort.ltInt x e[a]!) e j1 s = i0) (fun s => j1 + 1 - s) (i1) ⟨rfl, rfl, rfl, rfl, trivial⟩ (Ent.refl _) ⟨Nat.le_refl _, hi0.symm⟩ ?_
      rintro i ⟨g1, g3⟩
      rw [Sort.scanUp] at g3
      by_cases hi : i ≤ j1
      · refine Q.rn ?_; (repeat (intro b1; refine Q.rn ?_))
        refine Q.dgo [true] [12] [] [0, 1, 2, 3, 4, 5, 6, 7, 8, 9, 10, 11, 12, 13] ?_
        refine Q.rdn ?_; (repeat (intro b1; refine Q.rdn ?_))
        refine D.e rfl rfl rfl ?_
        refine S.guard rfl ?_
        refine S.cr rfl (Less_spec _ _ _) ?_
        rintro _ M ⟨rfl, rfl⟩
        rw [show decide (i ≤ j1) = true by simpa using hi, Bool.true_and] at g3
        cases hl : Sort.ltInt e[i]! e[a]! with
        | true =>
          rw [hl] at g3
          simp only [Bool.not_false, Bool.not_true, if_true] at g3
          refine Q.rn ?_; (repeat (intro b1; refine Q.rn ?_))
          refine Q.rdn ?_; (repeat (intro b1; refine Q.rdn ?_))
          refine Q.rn ?_; (repeat (intro b1; refine Q.rn ?_))
          exact ⟨i + 1, ⟨rfl, rfl, rfl, rfl, trivial⟩, Ent.refl _, ⟨by omega, g3⟩, by omega⟩
        | false =>
          rw [hl] at g3
          simp only [Bool.not_false, Bool.not_true, Bool.false_eq_true, if_false] at g3
          refine Q.rn ?_; (repeat (intro b1; refine Q.rn ?_))
          refine Q.rdn ?_; (repeat (intro b1; refine Q.rdn ?_))
          refine Q.rn ?_; (repeat (intro b1; refine Q.rn ?_))
          exact ⟨(), ⟨rfl, rfl, by rw [g3]; rfl, rfl, trivial⟩, Ent.refl _, trivial⟩
      · rw [show decide (i ≤ j1) = false by simpa using hi, Bool.false_and] at g3
        simp only [Bool.false_eq_true, if_false] at g3
        refine Q.rn ?_; (repeat (intro b1; refine Q.rn ?_))
        refine Q.dgo [true] [12] [] [0, 1, 2, 3, 4, 5, 6, 7, 8, 9, 10, 11, 12, 13] ?_
        refine Q.rdn ?_; (repeat (intro b1; refine Q.rdn ?_))
        refine Q.rn ?_; (repeat (intro b1; refine Q.rn ?_))
        exact ⟨(), ⟨rfl, rfl, by rw [g3]; rfl, rfl, trivial⟩, Ent.refl _, trivial⟩
    rintro _ _
    refine Q.rn ?_; (repeat (intro b1; refine Q.rn ?_))
    refine swp_cutB (σ := Unit) (fun _ => [(0, SV bk n c), (1, .int .i64 a), (10, .int .i64 i0), (11, .int .i64 j0)]) (fun _ => AR bk e rs :: L) (fun _ => True) ?_ ?_
    · refine swp_loop (σ := Nat) (fun s => [(0, SV bk n c), (1, .int .i64 a), (10, .int .i64 i0), (11, .int .i64 s)]) (fun s => AR bk e rs :: L)
        (fun s => s ≤ j1 ∧ Sort.scanDown (fun x => !Sort.ltInt x e[a]!) e i0 s = j0) (fun s => s) (j1) ⟨rfl, rfl, rfl, rfl, trivial⟩ (Ent.refl _) ⟨Nat.le_refl _, hj0.symm⟩ ?_
      rintro j ⟨g1, g3⟩
      by_cases hi : i0 ≤ j
      · obtain ⟨k, rfl⟩ : ∃ k, j = k + 1 := ⟨j - 1, by omega⟩
        rw [Sort.scanDown] at g3
        refine Q.rn ?_; (repeat (intro b1; refine Q.rn ?_))
        refine Q.dgo [true] [12] [] [0, 1, 2, 3, 4, 5, 6, 7, 8, 9, 10, 11, 12, 13, 14] ?_
        refine Q.rdn ?_; (repeat (intro b1; refine Q.rdn ?_))
        refine D.e rfl rfl rfl ?_
        refine S.guard rfl ?_
        refine S.cr rfl (Less_spec _ _ _) ?_
        rintro _ M ⟨rfl, rfl⟩
        rw [show decide (i0 ≤ k + 1) = true by simpa using hi, Bool.true_and] at g3
        cases hl : Sort.ltInt e[k + 1]! e[a]! with
        | false =>
          rw [hl] at g3
          simp only [Bool.not_false, Bool.not_true, if_true] at g3
          refine Q.rn ?_; (repeat (intro b1; refine Q.rn ?_))
          refine Q.rdn ?_; (repeat (intro b1; refine Q.rdn ?_))
          refine Q.rn ?_; (repeat (intro b1; refine Q.rn ?_))
          exact ⟨k, ⟨rfl, rfl, rfl, rfl, trivial⟩, Ent.refl _, ⟨by omega, g3⟩, by omega⟩
        | true =>
          rw [hl] at g3
          simp only [Bool.not_false, Bool.not_true, Bool.false_eq_true, if_false] at g3
          refine Q.rn ?_; (repeat (intro b1; refine Q.rn ?_))
          refine Q.rdn ?_; (repeat (intro b1; refine Q.rdn ?_))
          refine Q.rn ?_; (repeat (intro b1; refine Q.rn ?_))
          exact ⟨(), ⟨rfl, rfl, rfl, by rw [← g3]; rfl, trivial⟩, Ent.refl _, trivial⟩
      · have g4 : j = j0 := by
          rw [← g3]
          cases j with
          | zero => rfl
          | succ j => rw [Sort.scanDown, show decide (i0 ≤ j + 1) = false by simpa using hi]; simp
        refine Q.rn ?_; (repeat (intro b1; refine Q.rn ?_))
        refine Q.dgo [true] [12] [] [0, 1, 2, 3, 4, 5, 6, 7, 8, 9, 10, 11, 12, 13, 14] ?_
        refine Q.rdn ?_; (repeat (intro b1; refine Q.rdn ?_))
        refine Q.rn ?_; (repeat (intro b1; refine Q.rn ?_))
        exact ⟨(), ⟨rfl, rfl, rfl, by rw [g4]; rfl, trivial⟩, Ent.refl _, trivial⟩
    rintro _ _
    by_cases hgt : i0 > j0
    · rw [if_pos hgt] at k5
      subst k5
      refine Q.rn ?_; (repeat (intro b1; refine Q.rn ?_))
      exact ⟨(), ⟨rfl, rfl, rfl, trivial⟩, Ent.refl _, by dsimp only; omega, he⟩
    rw [if_neg hgt, dif_pos (by omega)] at k5
    refine Q.rn ?_; (repeat (intro b1; refine Q.rn ?_))
    refine Q.dgo [true] [13, 15] [13] [0, 1, 2, 3, 4, 5, 6, 7, 8, 9, 10, 11, 12, 13, 14, 15] ?_; (refine Q.rdn ?_; (repeat (intro b1; refine Q.rdn ?_))); refine Q.dc rfl rfl rfl rfl ?_; (refine Q.rn ?_; (repeat (intro b1; refine Q.rn ?_))); (refine Q.rdn ?_; (repeat (intro b1; refine Q.rdn ?_))); refine D.e rfl rfl rfl ?_; (refine Q.rn ?_; (repeat (intro b1; refine Q.rn ?_))); (refine Q.rdn ?_; (repeat (intro b1; refine Q.rdn ?_))); (refine Q.rn ?_; (repeat (intro b1; refine Q.rn ?_)))
    exact ⟨(i0 + 1, j0 - 1, Sort.swp e i0 j0), ⟨rfl, rfl, rfl, rfl, trivial⟩, Ent.refl _, ⟨by dsimp only; omega, by dsimp only; omega, by dsimp only; omega, by rw [swp_size]; exact he, k5⟩, by dsimp only; omega⟩
  rintro _ ⟨hpb, hps⟩
  refine Q.rn ?_; (repeat (intro b1; refine Q.rn ?_))
  refine Q.dgo [true] [13, 15] [13] [0, 1, 2, 3, 4, 5, 6, 7, 8, 9, 10, 11, 12, 13, 14, 15] ?_; (refine Q.rdn ?_; (repeat (intro b1; refine Q.rdn ?_))); refine Q.dc rfl rfl rfl rfl ?_; (refine Q.rn ?_; (repeat (intro b1; refine Q.rn ?_))); (refine Q.rdn ?_; (repeat (intro b1; refine Q.rdn ?_))); refine D.e rfl rfl rfl ?_; (refine Q.rn ?_; (repeat (intro b1; refine Q.rn ?_))); (refine Q.rdn ?_; (repeat (intro b1; refine Q.rdn ?_))); (refine Q.rn ?_; (repeat (intro b1; refine Q.rn ?_)))
  exact N.r2 (RV.tmp rfl (RV.tmp rfl RV.nil)) (Ent.refl _) ⟨rfl, rfl⟩
end Go.Proofs.YtjidejcehmamkaaGreatDoor
namespace Go.Proofs.YtjidejcehmamkaaGreatDoor
open Go Go.SX
attribute [local irreducible] swp opsS thenS blockS retS CallsS St Ent YieldS anyS drawS
attribute [local irreducible] ar
set_option maxHeartbeats 20000000 in
theorem partitionEqual_spec (bk n c a b pv : Nat) (d : Array Int) (rs : List Value) (L : List HP) (hd : d.size = n) (ha : a ≤ pv) (hp : pv < b) (hb : b ≤ n) (hn : n ≤ 17592186044416) :
    CallsS Tryz.prog 191 [SV bk n c, .int .i64 a, .int .i64 b, .int .i64 pv] (AR bk d rs :: L)
      (fun v L' => v = .int .i64 (Sort.partitionEqual Sort.ltInt d a b pv).1 ∧ L' = AR bk (Sort.partitionEqual Sort.ltInt d a b pv).2 rs :: L) := by
  refine CallsS.of_body Tryz.func191 rfl rfl rfl ?_
  refine Q.rn ?_; (repeat (intro b1; refine Q.rn ?_))
  refine Q.dgo [true] [13, 15] [13] [0, 1, 2, 3, 4, 5, 6, 7, 8, 9, 10, 11, 12, 13, 14, 15] ?_; (refine Q.rdn ?_; (repeat (intro b1; refine Q.rdn ?_))); refine Q.dc rfl rfl rfl rfl ?_; (refine Q.rn ?_; (repeat (intro b1; refine Q.rn ?_))); (refine Q.rdn ?_; (repeat (intro b1; refine Q.rdn ?_))); refine D.e rfl rfl rfl ?_; (refine Q.rn ?_; (repeat (intro b1; refine Q.rn ?_))); (refine Q.rdn ?_; (repeat (intro b1; refine Q.rdn ?_))); (refine Q.rn ?_; (repeat (intro b1; refine Q.rn ?_)))
  obtain ⟨pr, hpr⟩ : ∃ pr, pr = Sort.partitionEqual Sort.ltInt d a b pv := ⟨_, rfl⟩
  rw [← hpr]
  refine swp_cutB (σ := Unit) (fun _ => [(9, .int .i64 pr.1)]) (fun _ => AR bk pr.2 rs :: L) (fun _ => True) ?_ ?_
  · refine swp_loop (σ := Nat × Nat × Array Int) (fun s => [(0, SV bk n c), (1, .int .i64 a), (9, .int .i64 s.1), (10, .int .i64 s.2.1)]) (fun s => AR bk s.2.2 rs :: L)
      (fun s => a + 1 ≤ s.1 ∧ s.1 ≤ b + 1 ∧ s.2.1 < b ∧ s.2.2.size = n ∧ Sort.partEqLoop Sort.ltInt a s.1 s.2.1 s.2.2 = pr) (fun s => s.2.1 + 1 - s.1) (a + 1, b - 1, Sort.swp d a pv) ⟨rfl, rfl, rfl, rfl, trivial⟩ (Ent.refl _) ⟨by dsimp only; omega, by dsimp only; omega, by dsimp only; omega, by rw [swp_size]; exact hd, hpr.symm⟩ ?_
    clear hpr
    rintro ⟨i1, j1, e⟩ ⟨k1, k2, k3, he, k5⟩
    dsimp only at k1 k2 k3 he k5 ⊢
    obtain ⟨i0, hi0⟩ : ∃ i0, i0 = Sort.scanUp (fun x => !Sort.ltInt e[a]! x) e j1 i1 := ⟨_, rfl⟩
    obtain ⟨j0, hj0⟩ : ∃ j0, j0 = Sort.scanDown (fun x => Sort.ltInt e[a]! x) e i0 j1 := ⟨_, rfl⟩
    have bi := scanUp_ge (fun x => !Sort.ltInt e[a]! x) e j1 i1
    have bj := scanDown_le (fun x => Sort.ltInt e[a]! x) e i0 j1
    rw [← hi0] at bi
    rw [← hj0] at bj
    rw [Sort.partEqLoop] at k5
    simp only [← hi0, ← hj0] at k5
    refine Q.rn ?_; (repeat (intro b1; refine Q.rn ?_))
    refine swp_cutB (σ := Unit) (fun _ => [(0, SV bk n c), (1, .int .i64 a), (9, .int .i64 i0), (10, .int .i64 j1)]) (fun _ => AR bk e rs :: L) (fun _ => True) ?_ ?_
    · refine swp_loop (σ := Nat) (fun s => [(0, SV bk n c), (1, .int .i64 a), (9, .int .i64 s), (10, .int .i64 j1)]) (fun s => AR bk e rs :: L)
        (fun s => i1 ≤ s ∧ Sort.scanUp (fun x => !Sort.ltInt e[a]! x) e j1 s = i0) (fun s => j1 + 1 - s) (i1) ⟨rfl, rfl, rfl, rfl, trivial⟩ (Ent.refl _) ⟨Nat.le_refl _, hi0.symm⟩ ?_
      rintro i ⟨g1, g3⟩
      rw [Sort.scanUp] at g3
      by_cases hi : i ≤ j1
      · refine Q.rn ?_; (repeat (intro b1; refine Q.rn ?_))
        refine Q.dgo [true] [12] [] [0, 1, 2, 3, 4, 5, 6, 7, 8, 9, 10, 11, 12, 13, 14] ?_
        refine Q.rdn ?_; (repeat (intro b1; refine Q.rdn ?_))
        refine D.e rfl rfl rfl ?_
        refine S.guard rfl ?_
        refine S.cr rfl (Less_spec _ _ _) ?_
        rintro _ M ⟨rfl, rfl⟩
        rw [show decide (i ≤ j1) = true by simpa using hi, Bool.true_and] at g3
        cases hl : Sort.ltInt e[a]! e[i]! with
        | false =>
          rw [hl] at g3
          simp only [Bool.not_false, Bool.not_true, if_true] at g3
          refine Q.rn ?_; (repeat (intro b1; refine Q.rn ?_))
          refine Q.rdn ?_; (repeat (intro b1; refine Q.rdn ?_))
          refine Q.rn ?_; (repeat (intro b1; refine Q.rn ?_))
          exact ⟨i + 1, ⟨rfl, rfl, rfl, rfl, trivial⟩, Ent.refl _, ⟨by omega, g3⟩, by omega⟩
        | true =>
          rw [hl] at g3
          simp only [Bool.not_false, Bool.not_true, Bool.false_eq_true, if_false] at g3
          refine Q.rn ?_; (repeat (intro b1; refine Q.rn ?_))
          refine Q.rdn ?_; (repeat (intro b1; refine Q.rdn ?_))
          refine Q.rn ?_; (repeat (intro b1; refine Q.rn ?_))
          exact ⟨(), ⟨rfl, rfl, by rw [g3]; rfl, rfl, trivial⟩, Ent.refl _, trivial⟩
      · rw [show decide (i ≤ j1) = false by simpa using hi, Bool.false_and] at g3
        simp only [Bool.false_eq_true, if_false] at g3
        refine Q.rn ?_; (repeat (intro b1; refine Q.rn ?_))
        refine Q.dgo [true] [12] [] [0, 1, 2, 3, 4, 5, 6, 7, 8, 9, 10, 11, 12, 13, 14] ?_
        refine Q.rdn ?_; (repeat (intro b1; refine Q.rdn ?_))
        refine Q.rn ?_; (repeat (intro b1; refine Q.rn ?_))
        exact ⟨(), ⟨rfl, rfl, by rw [g3]; rfl, rfl, trivial⟩, Ent.refl _, trivial⟩
    rintro _ _
    refine Q.rn ?_; (repeat (intro b1; refine Q.rn ?_))
    refine swp_cutB (σ := Unit) (fun _ => [(0, SV bk n c), (1, .int .i64 a), (9, .int .i64 i0), (10, .int .i64 j0)]) (fun _ => AR bk e rs :: L) (fun _ => True) ?_ ?_
    · refine swp_loop (σ := Nat) (fun s => [(0, SV bk n c), (1, .int .i64 a), (9, .int .i64 i0), (10, .int .i64 s)]) (fun s => AR bk e rs :: L)
        (fun s => s ≤ j1 ∧ Sort.scanDown (fun x => Sort.ltInt e[a]! x) e i0 s = j0) (fun s => s) (j1) ⟨rfl, rfl, rfl, rfl, trivial⟩ (Ent.refl _) ⟨Nat.le_refl _, hj0.symm⟩ ?_
      rintro j ⟨g1, g3⟩
      by_cases hi : i0 ≤ j
      · obtain ⟨k, rfl⟩ : ∃ k, j = k + 1 := ⟨j - 1, by omega⟩
        rw [Sort.scanDown] at g3
        refine Q.rn ?_; (repeat (intro b1; refine Q.rn ?_))
        refine Q.dgo [true] [12] [] [0, 1, 2, 3, 4, 5, 6, 7, 8, 9, 10, 11, 12, 13] ?_
        refine Q.rdn ?_; (repeat (intro b1; refine Q.rdn ?_))
        refine D.e rfl rfl rfl ?_
        refine S.guard rfl ?_
        refine S.cr rfl (Less_spec _ _ _) ?_
        rintro _ M ⟨rfl, rfl⟩
        rw [show decide (i0 ≤ k + 1) = true by simpa using hi, Bool.true_and] at g3
        cases hl : Sort.ltInt e[a]! e[k + 1]! with
        | true =>
          rw [hl] at g3
          simp only [Bool.not_false, Bool.not_true, if_true] at g3
          refine Q.rn ?_; (repeat (intro b1; refine Q.rn ?_))
          refine Q.rdn ?_; (repeat (intro b1; refine Q.rdn ?_))
          refine Q.rn ?_; (repeat (intro b1; refine Q.rn ?_))
          exact ⟨k, ⟨rfl, rfl, rfl, rfl, trivial⟩, Ent.refl _, ⟨by omega, g3⟩, by omega⟩
        | false =>
          rw [hl] at g3
          simp only [Bool.not_false, Bool.not_true, Bool.false_eq_true, if_false] at g3
          refine Q.rn ?_; (repeat (intro b1; refine Q.rn ?_))
          refine Q.rdn ?_; (repeat (intro b1; refine Q.rdn ?_))
          refine Q.rn ?_; (repeat (intro b1; refine Q.rn ?_))
          exact ⟨(), ⟨rfl, rfl, rfl, by rw [← g3]; rfl, trivial⟩, Ent.refl _, trivial⟩
      · have g4 : j = j0 := by
          rw [← g3]
          cases j with
          | zero => rfl
          | succ j => rw [Sort.scanDown, show decide (i0 ≤ j + 1) = false by simpa using hi]; simp
        refine Q.rn ?_; (repeat (intro b1; refine Q.rn ?_))
        refine Q.dgo [true] [12] [] [0, 1, 2, 3, 4, 5, 6, 7, 8, 9, 10, 11, 12, 13] ?_
        refine Q.rdn ?_; (repeat (intro b1; refine Q.rdn ?_))
        refine Q.rn ?_; (repeat (intro b1; refine Q.rn ?_))
        exact ⟨(), ⟨rfl, rfl, rfl, by rw [g4]; rfl, trivial⟩, Ent.refl _, trivial⟩
    rintro _ _
    by_cases hgt : i0 > j0
    · rw [if_pos hgt] at k5
      subst k5
      refine Q.rn ?_; (repeat (intro b1; refine Q.rn ?_))
      exact ⟨(), ⟨rfl, trivial⟩, Ent.refl _, trivial⟩
    rw [if_neg hgt, dif_pos (by omega)] at k5
    refine Q.rn ?_; (repeat (intro b1; refine Q.rn ?_))
    refine Q.dgo [true] [13, 15] [13] [0, 1, 2, 3, 4, 5, 6, 7, 8, 9, 10, 11, 12, 13, 14, 15] ?_; (refine Q.rdn ?_; (repeat (intro b1; refine Q.rdn ?_))); refine Q.dc rfl rfl rfl rfl ?_; (refine Q.rn ?_; (repeat (intro b1; refine Q.rn ?_))); (refine Q.rdn ?_; (repeat (intro b1; refine Q.rdn ?_))); refine D.e rfl rfl rfl ?_; (refine Q.rn ?_; (repeat (intro b1; refine Q.rn ?_))); (refine Q.rdn ?_; (repeat (intro b1; refine Q.rdn ?_))); (refine Q.rn ?_; (repeat (intro b1; refine Q.rn ?_)))
    exact ⟨(i0 + 1, j0 - 1, Sort.swp e i0 j0), ⟨rfl, rfl, rfl, rfl, trivial⟩, Ent.refl _, ⟨by dsimp only; omega, by dsimp only; omega, by dsimp only; omega, by rw [swp_size]; exact he, k5⟩, by dsimp only; omega⟩
  rintro _ _
  refine Q.rn ?_; (repeat (intro b1; refine Q.rn ?_))
  exact N.r1 (RV.tmp rfl RV.nil) (Ent.refl _) ⟨rfl, rfl⟩
end Go.Proofs.YtjidejcehmamkaaGreatDoor
namespace Go.Proofs.YtjidejcehmamkaaGreatDoor
open Go Go.SX
attribute [local irreducible] swp opsS thenS blockS retS CallsS St Ent YieldS anyS drawS
attribute [local irreducible] ar
theorem scanSorted_ge (d : Array Int) (b i : Nat) (h : i ≤ b) : i ≤ Sort.scanSorted Sort.ltInt d b i ∧ Sort.scanSorted Sort.ltInt d b i ≤ b := by
  induction hk : b - i using Nat.strongRecOn generalizing i with
  | _ k ih =>
    rw [Sort.scanSorted]
    split
    · rename_i hc
      simp only [Bool.and_eq_true, decide_eq_true_eq] at hc
      have := ih _ (by omega) (i + 1) (by omega) rfl
      omega
    · omega
theorem shiftDown_size : ∀ (j : Nat) (d : Array Int), (Sort.shiftDown Sort.ltInt j d).size = d.size
  | 0, d => rfl
  | j + 1, d => by
    rw [Sort.shiftDown]
    split
    · rfl
    · rw [shiftDown_size j, swp_size]
theorem shiftUp_size (b j : Nat) (d : Array Int) : (Sort.shiftUp Sort.ltInt b j d).size = d.size := by
  induction hk : b - j using Nat.strongRecOn generalizing j d with
  | _ k ih =>
    rw [Sort.shiftUp]
    split
    · split
      · rfl
      · rw [ih _ (by omega) (j + 1) _ rfl, swp_size]
    · rfl
set_option maxHeartbeats 20000000 in
theorem partialInsertionSort_spec (bk n c a b : Nat) (d : Array Int) (rs : List Value) (L : List HP) (hd : d.size = n) (ha : a < b) (hb : b ≤ n) (hn : n ≤ 17592186044416) :
    CallsS Tryz.prog 189 [SV bk n c, .int .i64 a, .int .i64 b] (AR bk d rs :: L)
      (fun v L' => v = .bool (Sort.partialInsertionSort Sort.ltInt d a b).2 ∧ L' = AR bk (Sort.partialInsertionSort Sort.ltInt d a b).1 rs :: L) := by
  refine CallsS.of_body Tryz.func189 rfl rfl rfl ?_
  refine Q.rn ?_; (repeat (intro b1; refine Q.rn ?_))
  refine swp_loop (σ := Nat × Nat × Array Int) (fun s => [(0, SV bk n c), (1, .int .i64 a), (2, .int .i64 b), (7, .int .i64 s.2.1), (8, .int .i64 ((5 - s.1 : Nat) : Int))]) (fun s => AR bk s.2.2 rs :: L)
    (fun s => s.1 ≤ 5 ∧ a + 1 ≤ s.2.1 ∧ s.2.1 ≤ b ∧ s.2.2.size = n ∧ Sort.partialIns Sort.ltInt a b s.1 s.2.1 s.2.2 = Sort.partialInsertionSort Sort.ltInt d a b) (fun s => s.1) (5, a + 1, d) ⟨rfl, rfl, rfl, rfl, rfl, trivial⟩ (Ent.refl _) ⟨Nat.le_refl _, by dsimp only; omega, by dsimp only; omega, hd, rfl⟩ ?_
  rintro ⟨st, i0, e⟩ ⟨h1, h2, h3, h4, h5⟩
  dsimp only at h1 h2 h3 h4 h5 ⊢
  cases st with
  | zero =>
    rw [Sort.partialIns] at h5
    rw [← h5]
    refine Q.rn ?_; (repeat (intro b1; refine Q.rn ?_))
    exact N.r1 (RV.tmp rfl RV.nil) (Ent.refl _) ⟨rfl, rfl⟩
  | succ st =>
  obtain ⟨k, hk⟩ : ∃ k, k = 5 - (st + 1) := ⟨_, rfl⟩
  rw [← hk]
  have hk5 : k < 5 := by omega
  rw [Sort.partialIns] at h5
  obtain ⟨i1, hi1⟩ : ∃ i1, i1 = Sort.scanSorted Sort.ltInt e b i0 := ⟨_, rfl⟩
  have bi := scanSorted_ge e b i0 h3
  rw [← hi1] at bi
  simp only [← hi1] at h5
  refine Q.rn ?_; (repeat (intro b1; refine Q.rn ?_))
  refine swp_cutB (σ := Unit) (fun _ => [(0, SV bk n c), (1, .int .i64 a), (2, .int .i64 b), (7, .int .i64 i1), (8, .int .i64 k)]) (fun _ => AR bk e rs :: L) (fun _ => True) ?_ ?_
  · refine swp_loop (σ := Nat) (fun s => [(0, SV bk n c), (1, .int .i64 a), (2, .int .i64 b), (7, .int .i64 s), (8, .int .i64 k)]) (fun s => AR bk e rs :: L)
      (fun s => a + 1 ≤ s ∧ s ≤ b ∧ Sort.scanSorted Sort.ltInt e b s = i1) (fun s => b - s) i0 ⟨rfl, rfl, rfl, rfl, rfl, trivial⟩ (Ent.refl _) ⟨h2, h3, hi1.symm⟩ ?_
    rintro i ⟨g1, g2, g3⟩
    rw [Sort.scanSorted] at g3
    by_cases hi : i < b
    · refine Q.rn ?_; (repeat (intro b1; refine Q.rn ?_))
      refine Q.dgo [true] [13] [] [0, 1, 2, 3, 4, 5, 6, 7, 8, 9, 10, 11, 12, 13, 14, 15] ?_
      refine Q.rdn ?_; (repeat (intro b1; refine Q.rdn ?_))
      refine D.e rfl rfl rfl ?_
      refine S.guard rfl ?_
      refine S.cr rfl (Less_spec _ _ _) ?_
      rintro _ M ⟨rfl, rfl⟩
      rw [show decide (i < b) = true by simpa using hi, Bool.true_and] at g3
      cases hl : Sort.ltInt e[i]! e[i - 1]! with
      | false =>
        rw [hl] at g3
        simp only [Bool.not_false, if_true] at g3
        refine Q.rn ?_; (repeat (intro b1; refine Q.rn ?_))
        refine Q.rdn ?_; (repeat (intro b1; refine Q.rdn ?_))
        refine Q.rn ?_; (repeat (intro b1; refine Q.rn ?_))
        exact ⟨i + 1, ⟨rfl, rfl, rfl, rfl, rfl, trivial⟩, Ent.refl _, ⟨by omega, by omega, g3⟩, by omega⟩
      | true =>
        rw [hl] at g3
        simp only [Bool.not_true, Bool.false_eq_true, if_false] at g3
        refine Q.rn ?_; (repeat (intro b1; refine Q.rn ?_))
        refine Q.rdn ?_; (repeat (intro b1; refine Q.rdn ?_))
        refine Q.rn ?_; (repeat (intro b1; refine Q.rn ?_))
        exact ⟨(), ⟨rfl, rfl, rfl, by rw [g3]; rfl, rfl, trivial⟩, Ent.refl _, trivial⟩
    · rw [show decide (i < b) = false by simpa using hi, Bool.false_and] at g3
      simp only [Bool.false_eq_true, if_false] at g3
      refine Q.rn ?_; (repeat (intro b1; refine Q.rn ?_))
      refine Q.dgo [true] [13] [] [0, 1, 2, 3, 4, 5, 6, 7, 8, 9, 10, 11, 12, 13, 14, 15] ?_
      refine Q.rdn ?_; (repeat (intro b1; refine Q.rdn ?_))
      refine Q.rn ?_; (repeat (intro b1; refine Q.rn ?_))
      exact ⟨(), ⟨rfl, rfl, rfl, by rw [g3]; rfl, rfl, trivial⟩, Ent.refl _, trivial⟩
  rintro _ _
  by_cases hib : i1 = b
  · rw [if_pos hib] at h5
    rw [← h5]
    refine Q.rn ?_; (repeat (intro b1; refine Q.rn ?_))
    exact N.r1 (RV.tmp rfl RV.nil) (Ent.refl _) ⟨rfl, rfl⟩
  rw [if_neg hib] at h5
  by_cases h50 : b - a < 50
  · rw [if_pos h50] at h5
    rw [← h5]
    refine Q.rn ?_; (repeat (intro b1; refine Q.rn ?_))
    exact N.r1 (RV.tmp rfl RV.nil) (Ent.refl _) ⟨rfl, rfl⟩
  rw [if_neg h50] at h5
  refine Q.rn ?_; (repeat (intro b1; refine Q.rn ?_))
  refine Q.dgo [true] [15, 17] [15] [0, 1, 2, 3, 4, 5, 6, 7, 8, 9, 10, 11, 12, 13, 14, 15, 16, 17] ?_; (refine Q.rdn ?_; (repeat (intro b1; refine Q.rdn ?_))); refine Q.dc rfl rfl rfl rfl ?_; (refine Q.rn ?_; (repeat (intro b1; refine Q.rn ?_))); (refine Q.rdn ?_; (repeat (intro b1; refine Q.rdn ?_))); refine D.e rfl rfl rfl ?_; (refine Q.rn ?_; (repeat (intro b1; refine Q.rn ?_))); (refine Q.rdn ?_; (repeat (intro b1; refine Q.rdn ?_))); (refine Q.rn ?_; (repeat (intro b1; refine Q.rn ?_)))
  have hes : (Sort.swp e i1 (i1 - 1)).size = n := by rw [swp_size]; exact h4
  obtain ⟨e1, he1⟩ : ∃ e1, e1 = (if i1 - a ≥ 2 then Sort.shiftDown Sort.ltInt (i1 - 1) (Sort.swp e i1 (i1 - 1)) else Sort.swp e i1 (i1 - 1)) := ⟨_, rfl⟩
  have he1s : e1.size = n := by rw [he1]; split <;> first | (rw [shiftDown_size]; exact hes) | exact hes
  rw [← he1] at h5
  refine swp_cutT (σ := Unit) (fun _ => [(0, SV bk n c), (1, .int .i64 a), (2, .int .i64 b), (7, .int .i64 i1), (8, .int .i64 k)]) (fun _ => AR bk e1 rs :: L) (fun _ => True) ?_ ?_
  · by_cases h2a : i1 - a ≥ 2
    · rw [if_pos h2a] at he1
      refine Q.rn ?_; (repeat (intro b1; refine Q.rn ?_))
      refine swp_loop (σ := Nat × Array Int) (fun s => [(0, SV bk n c), (1, .int .i64 a), (2, .int .i64 b), (7, .int .i64 i1), (8, .int .i64 k), (9, .int .i64 s.1)]) (fun s => AR bk s.2 rs :: L)
        (fun s => s.1 < b ∧ s.2.size = n ∧ Sort.shiftDown Sort.ltInt s.1 s.2 = e1) (fun s => s.1) (i1 - 1, Sort.swp e i1 (i1 - 1)) ⟨rfl, rfl, rfl, rfl, rfl, rfl, trivial⟩ (Ent.refl _) ⟨by dsimp only; omega, hes, he1.symm⟩ ?_
      rintro ⟨j, g⟩ ⟨g1, g2, g3⟩
      dsimp only at g1 g2 g3 ⊢
      cases j with
      | zero =>
        rw [Sort.shiftDown] at g3
        subst g3
        refine Q.rn ?_; (repeat (intro b1; refine Q.rn ?_))
        exact ⟨(), ⟨rfl, rfl, rfl, rfl, rfl, trivial⟩, Ent.refl _, trivial⟩
      | succ j =>
        rw [Sort.shiftDown] at g3
        refine Q.rn ?_; (repeat (intro b1; refine Q.rn ?_))
        refine Q.dgo [true] [9] [] [0, 1, 2, 3, 4, 5, 6, 7, 8, 9, 10] ?_
        refine Q.rdn ?_; (repeat (intro b1; refine Q.rdn ?_))
        refine D.e rfl rfl rfl ?_
        refine S.cr rfl (Less_spec _ _ _) ?_
        rintro _ M ⟨rfl, rfl⟩
        cases hl : Sort.ltInt g[j + 1]! g[j]! with
        | false =>
          rw [hl] at g3
          simp only [Bool.not_false, if_true] at g3
          rw [show j + 1 - 1 = j from rfl, hl]
          subst g3
          refine Q.rn ?_; (repeat (intro b1; refine Q.rn ?_))
          refine Q.rdn ?_; (repeat (intro b1; refine Q.rdn ?_))
          refine Q.rn ?_; (repeat (intro b1; refine Q.rn ?_))
          exact ⟨(), ⟨rfl, rfl, rfl, rfl, rfl, trivial⟩, Ent.refl _, trivial⟩
        | true =>
          rw [hl] at g3
          simp only [Bool.not_true, Bool.false_eq_true, if_false] at g3
          rw [show j + 1 - 1 = j from rfl, hl]
          refine Q.rn ?_; (repeat (intro b1; refine Q.rn ?_))
          refine Q.rdn ?_; (repeat (intro b1; refine Q.rdn ?_))
          refine Q.rn ?_; (repeat (intro b1; refine Q.rn ?_))
          refine Q.dgo [true] [15, 17] [15] [0, 1, 2, 3, 4, 5, 6, 7, 8, 9, 10, 11, 12, 13, 14, 15, 16, 17] ?_; (refine Q.rdn ?_; (repeat (intro b1; refine Q.rdn ?_))); refine Q.dc rfl rfl rfl rfl ?_; (refine Q.rn ?_; (repeat (intro b1; refine Q.rn ?_))); (refine Q.rdn ?_; (repeat (intro b1; refine Q.rdn ?_))); refine D.e rfl rfl rfl ?_; (refine Q.rn ?_; (repeat (intro b1; refine Q.rn ?_))); (refine Q.rdn ?_; (repeat (intro b1; refine Q.rdn ?_))); (refine Q.rn ?_; (repeat (intro b1; refine Q.rn ?_)))
          exact ⟨(j, Sort.swp g (j + 1) j), ⟨rfl, rfl, rfl, rfl, rfl, rfl, trivial⟩, Ent.refl _, ⟨by dsimp only; omega, by rw [swp_size]; exact g2, g3⟩, by dsimp only; omega⟩
    · rw [if_neg h2a] at he1
      subst he1
      refine Q.rn ?_; (repeat (intro b1; refine Q.rn ?_))
      first | refine N.tn ?_ | skip
      exact ⟨(), ⟨rfl, rfl, rfl, rfl, rfl, trivial⟩, Ent.refl _, trivial⟩
  rintro _ _
  clear he1 hes
  obtain ⟨e2, he2⟩ : ∃ e2, e2 = (if b - i1 ≥ 2 then Sort.shiftUp Sort.ltInt b (i1 + 1) e1 else e1) := ⟨_, rfl⟩
  have he2s : e2.size = n := by rw [he2]; split <;> first | (rw [shiftUp_size]; exact he1s) | exact he1s
  rw [← he2] at h5
  refine Q.rn ?_; (repeat (intro b1; refine Q.rn ?_))
  refine swp_cutB (σ := Unit) (fun _ => [(0, SV bk n c), (1, .int .i64 a), (2, .int .i64 b), (7, .int .i64 i1), (8, .int .i64 k)]) (fun _ => AR bk e2 rs :: L) (fun _ => True) ?_ ?_
  · by_cases h2b : b - i1 ≥ 2
    · rw [if_pos h2b] at he2
      refine Q.rn ?_; (repeat (intro b1; refine Q.rn ?_))
      refine swp_loop (σ := Nat × Array Int) (fun s => [(0, SV bk n c), (1, .int .i64 a), (2, .int .i64 b), (7, .int .i64 i1), (8, .int .i64 k), (10, .int .i64 s.1)]) (fun s => AR bk s.2 rs :: L)
        (fun s => 1 ≤ s.1 ∧ s.1 ≤ b ∧ s.2.size = n ∧ Sort.shiftUp Sort.ltInt b s.1 s.2 = e2) (fun s => b - s.1) (i1 + 1, e1) ⟨rfl, rfl, rfl, rfl, rfl, rfl, trivial⟩ (Ent.refl _) ⟨by dsimp only; omega, by dsimp only; omega, he1s, he2.symm⟩ ?_
      rintro ⟨j, g⟩ ⟨g0, g1, g2, g3⟩
      dsimp only at g0 g1 g2 g3 ⊢
      rw [Sort.shiftUp] at g3
      by_cases hj : j < b
      · rw [if_pos hj] at g3
        refine Q.rn ?_; (repeat (intro b1; refine Q.rn ?_))
        refine Q.dgo [true] [9] [] [0, 1, 2, 3, 4, 5, 6, 7, 8, 9, 10] ?_
        refine Q.rdn ?_; (repeat (intro b1; refine Q.rdn ?_))
        refine D.e rfl rfl rfl ?_
        refine S.cr rfl (Less_spec _ _ _) ?_
        rintro _ M ⟨rfl, rfl⟩
        cases hl : Sort.ltInt g[j]! g[j - 1]! with
        | false =>
          rw [hl] at g3
          simp only [Bool.not_false, if_true] at g3
          subst g3
          refine Q.rn ?_; (repeat (intro b1; refine Q.rn ?_))
          refine Q.rdn ?_; (repeat (intro b1; refine Q.rdn ?_))
          refine Q.rn ?_; (repeat (intro b1; refine Q.rn ?_))
          exact ⟨(), ⟨rfl, rfl, rfl, rfl, rfl, trivial⟩, Ent.refl _, trivial⟩
        | true =>
          rw [hl] at g3
          simp only [Bool.not_true, Bool.false_eq_true, if_false] at g3
          refine Q.rn ?_; (repeat (intro b1; refine Q.rn ?_))
          refine Q.rdn ?_; (repeat (intro b1; refine Q.rdn ?_))
          refine Q.rn ?_; (repeat (intro b1; refine Q.rn ?_))
          refine Q.dgo [true] [15, 17] [15] [0, 1, 2, 3, 4, 5, 6, 7, 8, 9, 10, 11, 12, 13, 14, 15, 16, 17] ?_; (refine Q.rdn ?_; (repeat (intro b1; refine Q.rdn ?_))); refine Q.dc rfl rfl rfl rfl ?_; (refine Q.rn ?_; (repeat (intro b1; refine Q.rn ?_))); (refine Q.rdn ?_; (repeat (intro b1; refine Q.rdn ?_))); refine D.e rfl rfl rfl ?_; (refine Q.rn ?_; (repeat (intro b1; refine Q.rn ?_))); (refine Q.rdn ?_; (repeat (intro b1; refine Q.rdn ?_))); (refine Q.rn ?_; (repeat (intro b1; refine Q.rn ?_)))
          exact ⟨(j + 1, Sort.swp g j (j - 1)), ⟨rfl, rfl, rfl, rfl, rfl, rfl, trivial⟩, Ent.refl _, ⟨by dsimp only; omega, by dsimp only; omega, by rw [swp_size]; exact g2, g3⟩, by dsimp only; omega⟩
      · rw [if_neg hj] at g3
        subst g3
        refine Q.rn ?_; (repeat (intro b1; refine Q.rn ?_))
        exact ⟨(), ⟨rfl, rfl, rfl, rfl, rfl, trivial⟩, Ent.refl _, trivial⟩
    · rw [if_neg h2b] at he2
      subst he2
      refine Q.rn ?_; (repeat (intro b1; refine Q.rn ?_))
      first | refine N.tn ?_ | skip
      exact ⟨(), ⟨rfl, rfl, rfl, rfl, rfl, trivial⟩, Ent.refl _, trivial⟩
  rintro _ _
  refine Q.rn ?_; (repeat (intro b1; refine Q.rn ?_))
  exact ⟨(st, i1, e2), ⟨rfl, rfl, rfl, rfl, congrArg some (congrArg (Value.int .i64) (by dsimp only; omega)), trivial⟩, Ent.refl _, ⟨by dsimp only; omega, by dsimp only; omega, bi.2, he2s, h5⟩, by dsimp only; omega⟩
end Go.Proofs.YtjidejcehmamkaaGreatDoor
namespace Go.Proofs.YtjidejcehmamkaaGreatDoor
open Go Go.SX
attribute [local irreducible] swp opsS thenS blockS retS CallsS St Ent YieldS anyS drawS
attribute [local irreducible] ar
abbrev SW (p s : Nat) : HP := pt p (cl [.int .i64 s] 3)
set_option maxHeartbeats 4000000 in
theorem order2_spec (bk n c a b p sw : Nat) (d : Array Int) (rs : List Value) (L : List HP) (hd : d.size = n) (ha : a < n) (hb : b < n) (hn : n ≤ 17592186044416) (hs : sw ≤ 1000000) :
    CallsS Tryz.prog 201 [SV bk n c, .int .i64 a, .int .i64 b, .pointer (some ⟨p, 0, none⟩)] (AR bk d rs :: SW p sw :: L)
      (fun v L' => v = .tuple #[.int .i64 (Sort.order2 Sort.ltInt d a b sw).1, .int .i64 (Sort.order2 Sort.ltInt d a b sw).2.1] ∧ L' = AR bk d rs :: SW p (Sort.order2 Sort.ltInt d a b sw).2.2 :: L) := by
  refine CallsS.of_body Tryz.func201 rfl rfl rfl ?_
  refine Q.rn ?_; (repeat (intro b1; refine Q.rn ?_))
  refine Q.dgo [true, false] [8] [] [0, 1, 2, 3, 4, 5, 6, 7, 8] ?_
  refine Q.rdn ?_; (repeat (intro b1; refine Q.rdn ?_))
  refine D.e rfl rfl rfl ?_
  refine S.cr rfl (Less_spec _ _ _) ?_
  rintro _ M ⟨rfl, rfl⟩
  unfold Sort.order2
  cases hl : Sort.ltInt d[b]! d[a]! with
  | false =>
    refine Q.rn ?_; (repeat (intro b1; refine Q.rn ?_))
    refine Q.rdn ?_; (repeat (intro b1; refine Q.rdn ?_))
    refine Q.rn ?_; (repeat (intro b1; refine Q.rn ?_))
    exact N.r2 (RV.tmp rfl (RV.tmp rfl RV.nil)) (Ent.refl _) ⟨rfl, rfl⟩
  | true =>
    refine Q.rn ?_; (repeat (intro b1; refine Q.rn ?_))
    refine Q.rdn ?_; (repeat (intro b1; refine Q.rdn ?_))
    refine Q.rn ?_; (repeat (intro b1; refine Q.rn ?_))
    exact N.r2 (RV.tmp rfl (RV.tmp rfl RV.nil)) (Ent.refl _) ⟨rfl, rfl⟩
theorem order2_in {n : Nat} {d : Array Int} {a b sw : Nat} (ha : a < n) (hb : b < n) : (Sort.order2 Sort.ltInt d a b sw).1 < n ∧ (Sort.order2 Sort.ltInt d a b sw).2.1 < n ∧ (Sort.order2 Sort.ltInt d a b sw).2.2 ≤ sw + 1 := by
  unfold Sort.order2; split <;> simp_all <;> omega
set_option maxHeartbeats 4000000 in
theorem median_spec (bk n c a b e p sw : Nat) (d : Array Int) (rs : List Value) (L : List HP) (hd : d.size = n) (ha : a < n) (hb : b < n) (he : e < n) (hn : n ≤ 17592186044416) (hs : sw ≤ 1000) :
    CallsS Tryz.prog 199 [SV bk n c, .int .i64 a, .int .i64 b, .int .i64 e, .pointer (some ⟨p, 0, none⟩)] (AR bk d rs :: SW p sw :: L)
      (fun v L' => v = .int .i64 (Sort.median Sort.ltInt d a b e sw).1 ∧ L' = AR bk d rs :: SW p (Sort.median Sort.ltInt d a b e sw).2 :: L) := by
  refine CallsS.of_body Tryz.func199 rfl rfl rfl ?_
  refine Q.rn ?_; (repeat (intro b1; refine Q.rn ?_))
  refine S.cr rfl (order2_spec bk n c a b p sw d rs L hd ha hb hn (by omega)) ?_
  rintro _ _ ⟨rfl, rfl⟩
  have r1 := order2_in (d := d) (sw := sw) ha hb
  unfold Sort.median
  generalize Sort.order2 Sort.ltInt d a b sw = o1 at r1
  refine Q.rn ?_; (repeat (intro b1; refine Q.rn ?_))
  refine S.cr rfl (order2_spec bk n c o1.2.1 e p o1.2.2 d rs L hd r1.2.1 he hn (by omega)) ?_
  rintro _ _ ⟨rfl, rfl⟩
  have r2 := order2_in (d := d) (sw := o1.2.2) r1.2.1 he
  dsimp only
  generalize Sort.order2 Sort.ltInt d o1.2.1 e o1.2.2 = o2 at r2
  refine Q.rn ?_; (repeat (intro b1; refine Q.rn ?_))
  refine S.cr rfl (order2_spec bk n c o1.1 o2.1 p o2.2.2 d rs L hd r1.1 r2.1 hn (by omega)) ?_
  rintro _ _ ⟨rfl, rfl⟩
  refine Q.rn ?_; (repeat (intro b1; refine Q.rn ?_))
  exact N.r1 (RV.tmp rfl RV.nil) (Ent.refl _) ⟨rfl, rfl⟩
theorem median_in {n : Nat} {d : Array Int} {a b e sw : Nat} (ha : a < n) (hb : b < n) (he : e < n) : (Sort.median Sort.ltInt d a b e sw).1 < n ∧ (Sort.median Sort.ltInt d a b e sw).2 ≤ sw + 3 := by
  have r1 := order2_in (d := d) (sw := sw) ha hb
  unfold Sort.median
  generalize Sort.order2 Sort.ltInt d a b sw = o1 at r1
  have r2 := order2_in (d := d) (sw := o1.2.2) r1.2.1 he
  dsimp only
  generalize Sort.order2 Sort.ltInt d o1.2.1 e o1.2.2 = o2 at r2
  have r3 := order2_in (d := d) (sw := o2.2.2) r1.1 r2.1
  omega
set_option maxHeartbeats 4000000 in
theorem medianAdjacent_spec (bk n c a p sw : Nat) (d : Array Int) (rs : List Value) (L : List HP) (hd : d.size = n) (h1 : 1 ≤ a) (ha : a + 1 < n) (hn : n ≤ 17592186044416) (hs : sw ≤ 1000) :
    CallsS Tryz.prog 198 [SV bk n c, .int .i64 a, .pointer (some ⟨p, 0, none⟩)] (AR bk d rs :: SW p sw :: L)
      (fun v L' => v = .int .i64 (Sort.medianAdjacent Sort.ltInt d a sw).1 ∧ L' = AR bk d rs :: SW p (Sort.medianAdjacent Sort.ltInt d a sw).2 :: L) := by
  refine CallsS.of_body Tryz.func198 rfl rfl rfl ?_
  refine Q.rn ?_; (repeat (intro b1; refine Q.rn ?_))
  refine S.cr rfl (median_spec bk n c (a - 1) a (a + 1) p sw d rs L hd (by omega) (by omega) (by omega) hn hs) ?_
  rintro _ _ ⟨rfl, rfl⟩
  refine Q.rn ?_; (repeat (intro b1; refine Q.rn ?_))
  exact N.r1 (RV.tmp rfl RV.nil) (Ent.refl _) ⟨rfl, rfl⟩
def hintN : Sort.Hint → Int
  | .unknown => 0
  | .increasing => 1
  | .decreasing => 2
set_option maxHeartbeats 8000000 in
theorem choosePivot_spec (bk n c a b : Nat) (d : Array Int) (rs : List Value) (L : List HP) (hd : d.size = n) (ha : a < b) (hb : b ≤ n) (hn : n ≤ 17592186044416) :
    CallsS Tryz.prog 187 [SV bk n c, .int .i64 a, .int .i64 b] (AR bk d rs :: L)
      (fun v L' => v = .tuple #[.int .i64 (Sort.choosePivot Sort.ltInt d a b).1, .int .i64 (hintN (Sort.choosePivot Sort.ltInt d a b).2)] ∧ L' = AR bk d rs :: L) := by
  refine CallsS.of_body Tryz.func187 rfl rfl rfl ?_
  refine Q.rn ?_; (repeat (intro b1; refine Q.rn ?_))
  obtain ⟨p, hp⟩ : ∃ p, p = b1 := ⟨_, rfl⟩
  rw [← hp]
  obtain ⟨r, hr⟩ : ∃ r : Nat × Nat, r = (if b - a ≥ 8 then if b - a ≥ 50 then
      Sort.median Sort.ltInt d (Sort.medianAdjacent Sort.ltInt d (a + (b - a) / 4 * 1) 0).1 (Sort.medianAdjacent Sort.ltInt d (a + (b - a) / 4 * 2) (Sort.medianAdjacent Sort.ltInt d (a + (b - a) / 4 * 1) 0).2).1
        (Sort.medianAdjacent Sort.ltInt d (a + (b - a) / 4 * 3) (Sort.medianAdjacent Sort.ltInt d (a + (b - a) / 4 * 2) (Sort.medianAdjacent Sort.ltInt d (a + (b - a) / 4 * 1) 0).2).2).1
        (Sort.medianAdjacent Sort.ltInt d (a + (b - a) / 4 * 3) (Sort.medianAdjacent Sort.ltInt d (a + (b - a) / 4 * 2) (Sort.medianAdjacent Sort.ltInt d (a + (b - a) / 4 * 1) 0).2).2).2
      else Sort.median Sort.ltInt d (a + (b - a) / 4 * 1) (a + (b - a) / 4 * 2) (a + (b - a) / 4 * 3) 0 else (a + (b - a) / 4 * 2, 0)) := ⟨_, rfl⟩
  have hc : Sort.choosePivot Sort.ltInt d a b = (r.1, if r.2 = 0 then .increasing else if r.2 = 12 then .decreasing else .unknown) := by rw [hr]; rfl
  rw [hc]
  clear hc
  refine swp_ent (Ent.perm (.swap _ _ _)) ?_
  refine swp_cutT (σ := Unit) (fun _ => [(11, .int .i64 r.1), (9, .pointer (some ⟨p, 0, none⟩))]) (fun _ => AR bk d rs :: SW p r.2 :: L) (fun _ => True) ?_ ?_
  · by_cases h8 : b - a ≥ 8
    · rw [if_pos h8] at hr
      by_cases h50 : b - a ≥ 50
      · rw [if_pos h50] at hr
        refine Q.rn ?_; (repeat (intro b1; refine Q.rn ?_))
        refine S.cr rfl (medianAdjacent_spec bk n c (a + (b - a) / 4 * 1) p 0 d rs L hd (by omega) (by omega) hn (by omega)) ?_
        rintro _ _ ⟨rfl, rfl⟩
        have q1 : (Sort.medianAdjacent Sort.ltInt d (a + (b - a) / 4 * 1) 0).1 < n ∧ (Sort.medianAdjacent Sort.ltInt d (a + (b - a) / 4 * 1) 0).2 ≤ 0 + 3 := median_in (by omega) (by omega) (by omega)
        generalize Sort.medianAdjacent Sort.ltInt d (a + (b - a) / 4 * 1) 0 = ri at q1 hr
        refine Q.rn ?_; (repeat (intro b1; refine Q.rn ?_))
        refine S.cr rfl (medianAdjacent_spec bk n c (a + (b - a) / 4 * 2) p ri.2 d rs L hd (by omega) (by omega) hn (by omega)) ?_
        rintro _ _ ⟨rfl, rfl⟩
        have q2 : (Sort.medianAdjacent Sort.ltInt d (a + (b - a) / 4 * 2) ri.2).1 < n ∧ (Sort.medianAdjacent Sort.ltInt d (a + (b - a) / 4 * 2) ri.2).2 ≤ ri.2 + 3 := median_in (by omega) (by omega) (by omega)
        generalize Sort.medianAdjacent Sort.ltInt d (a + (b - a) / 4 * 2) ri.2 = rj at q2 hr
        refine Q.rn ?_; (repeat (intro b1; refine Q.rn ?_))
        refine S.cr rfl (medianAdjacent_spec bk n c (a + (b - a) / 4 * 3) p rj.2 d rs L hd (by omega) (by omega) hn (by omega)) ?_
        rintro _ _ ⟨rfl, rfl⟩
        have q3 : (Sort.medianAdjacent Sort.ltInt d (a + (b - a) / 4 * 3) rj.2).1 < n ∧ (Sort.medianAdjacent Sort.ltInt d (a + (b - a) / 4 * 3) rj.2).2 ≤ rj.2 + 3 := median_in (by omega) (by omega) (by omega)
        generalize Sort.medianAdjacent Sort.ltInt d (a + (b - a) / 4 * 3) rj.2 = rk at q3 hr
        refine Q.rn ?_; (repeat (intro b1; refine Q.rn ?_))
        refine S.cr rfl (median_spec bk n c ri.1 rj.1 rk.1 p rk.2 d rs L hd q1.1 q2.1 q3.1 hn (by omega)) ?_
        rintro _ _ ⟨rfl, rfl⟩
        rw [← hr]
        refine Q.rn ?_; (repeat (intro b1; refine Q.rn ?_))
        first | refine N.tn ?_ | skip
        exact ⟨(), ⟨rfl, rfl, trivial⟩, Ent.refl _, trivial⟩
      · rw [if_neg h50] at hr
        refine Q.rn ?_; (repeat (intro b1; refine Q.rn ?_))
        refine S.cr rfl (median_spec bk n c (a + (b - a) / 4 * 1) (a + (b - a) / 4 * 2) (a + (b - a) / 4 * 3) p 0 d rs L hd (by omega) (by omega) (by omega) hn (by omega)) ?_
        rintro _ _ ⟨rfl, rfl⟩
        rw [← hr]
        refine Q.rn ?_; (repeat (intro b1; refine Q.rn ?_))
        first | refine N.tn ?_ | skip
        exact ⟨(), ⟨rfl, rfl, trivial⟩, Ent.refl _, trivial⟩
    · rw [if_neg h8] at hr
      subst hr
      refine Q.rn ?_; (repeat (intro b1; refine Q.rn ?_))
      first | refine N.tn ?_ | skip
      exact ⟨(), ⟨rfl, rfl, trivial⟩, Ent.refl _, trivial⟩
  rintro _ _
  clear hr
  obtain ⟨m, w⟩ := r
  by_cases h0 : w = 0
  · subst h0
    refine Q.rn ?_; (repeat (intro b1; refine Q.rn ?_))
    exact N.r2 (RV.tmp rfl (RV.tmp rfl RV.nil)) (Ent.cons (Ent.drop (Ent.refl _))) ⟨rfl, rfl⟩
  by_cases h12 : w = 12
  · subst h12
    refine Q.rn ?_; (repeat (intro b1; refine Q.rn ?_))
    exact N.r2 (RV.tmp rfl (RV.tmp rfl RV.nil)) (Ent.cons (Ent.drop (Ent.refl _))) ⟨rfl, rfl⟩
  refine Q.rn ?_; (repeat (intro b1; refine Q.rn ?_))
  exact N.r2 (RV.tmp rfl (RV.tmp rfl RV.nil)) (Ent.cons (Ent.drop (Ent.refl _))) ⟨by simp only [if_neg h0, if_neg h12]; rfl, rfl⟩
end Go.Proofs.YtjidejcehmamkaaGreatDoor
namespace Go.Proofs.YtjidejcehmamkaaGreatDoor
open Go Go.SX
attribute [local irreducible] swp opsS thenS blockS retS CallsS St Ent YieldS anyS drawS
attribute [local irreducible] ar
set_option maxHeartbeats 4000000 in
theorem Len64_spec (x : Nat) (hx : x < 18446744073709551616) (L : List HP) : CallsS Tryz.prog 194 [.int .u64 x] L (fun v L' => v = .int .i64 (Sort.bitsLen x) ∧ L' = L) := by
  refine CallsS.of_body Tryz.func194 rfl rfl rfl ?_
  have h1 : x < 18446744073709551616 := hx
  have h2 : 0 ≤ 0 := Nat.le_refl _
  have h3 : 0 + Sort.bitsLen x = Sort.bitsLen x := by simp
  obtain ⟨y, hy⟩ : ∃ y, y = x := ⟨_, rfl⟩
  obtain ⟨m, hm⟩ : ∃ m, m = 0 := ⟨_, rfl⟩
  rw [← hy] at h1 ⊢
  rw [← hm] at h2
  have h3 : m + Sort.bitsLen y = Sort.bitsLen y := by omega
  refine Q.rn ?_; (repeat (intro b1; refine Q.rn ?_))
  refine swp_cutT (σ := Nat × Nat) (fun s => [(0, .int .u64 s.1), (2, .int .i64 s.2)]) (fun _ => L) (fun s => s.1 < 4294967296 ∧ s.2 ≤ 32 ∧ s.2 + Sort.bitsLen s.1 = Sort.bitsLen y) ?_ ?_
  · by_cases h : 4294967296 ≤ y
    · have hdv : y / 2 ^ 32 < 4294967296 := by omega
      have hbl : Sort.bitsLen y = 32 + Sort.bitsLen (y / 2 ^ 32) := bitsLen_shift (by omega)
      refine Q.rn ?_; (repeat (intro b1; refine Q.rn ?_))
      refine S.y (Y.shr (a := y) (b := 32) rfl rfl (by decide)) ?_
      generalize y / 2 ^ 32 = z at hdv hbl
      refine Q.rn ?_; (repeat (intro b1; refine Q.rn ?_))
      first | refine N.tn ?_ | skip
      exact ⟨(z, 32), ⟨rfl, rfl, trivial⟩, Ent.refl _, hdv, by dsimp only; omega, by dsimp only; omega⟩
    · refine Q.rn ?_; (repeat (intro b1; refine Q.rn ?_))
      first | refine N.tn ?_ | skip
      exact ⟨(y, 0), ⟨rfl, rfl, trivial⟩, Ent.refl _, by dsimp only; omega, by dsimp only; omega, by simp⟩
  obtain ⟨x, hx2⟩ : ∃ x, x = y := ⟨_, rfl⟩
  rw [← hx2]
  clear h1 h2 h3 hy hm hx2 hx
  rintro ⟨y, m⟩ ⟨h1, h2, h3⟩
  dsimp only at h1 h2 h3 ⊢
  refine Q.rn ?_; (repeat (intro b1; refine Q.rn ?_))
  refine swp_cutT (σ := Nat × Nat) (fun s => [(0, .int .u64 s.1), (2, .int .i64 s.2)]) (fun _ => L) (fun s => s.1 < 65536 ∧ s.2 ≤ 48 ∧ s.2 + Sort.bitsLen s.1 = Sort.bitsLen x) ?_ ?_
  · by_cases h : 65536 ≤ y
    · have hdv : y / 2 ^ 16 < 65536 := by omega
      have hbl : Sort.bitsLen y = 16 + Sort.bitsLen (y / 2 ^ 16) := bitsLen_shift (by omega)
      refine Q.rn ?_; (repeat (intro b1; refine Q.rn ?_))
      refine S.y (Y.shr (a := y) (b := 16) rfl rfl (by decide)) ?_
      generalize y / 2 ^ 16 = z at hdv hbl
      refine Q.rn ?_; (repeat (intro b1; refine Q.rn ?_))
      first | refine N.tn ?_ | skip
      exact ⟨(z, m + 16), ⟨rfl, rfl, trivial⟩, Ent.refl _, hdv, by dsimp only; omega, by dsimp only; omega⟩
    · refine Q.rn ?_; (repeat (intro b1; refine Q.rn ?_))
      first | refine N.tn ?_ | skip
      exact ⟨(y, m), ⟨rfl, rfl, trivial⟩, Ent.refl _, by dsimp only; omega, by dsimp only; omega, h3⟩
  clear h1 h2 h3
  rintro ⟨y, m⟩ ⟨h1, h2, h3⟩
  dsimp only at h1 h2 h3 ⊢
  refine Q.rn ?_; (repeat (intro b1; refine Q.rn ?_))
  refine swp_cutT (σ := Nat × Nat) (fun s => [(0, .int .u64 s.1), (2, .int .i64 s.2)]) (fun _ => L) (fun s => s.1 < 256 ∧ s.2 ≤ 56 ∧ s.2 + Sort.bitsLen s.1 = Sort.bitsLen x) ?_ ?_
  · by_cases h : 256 ≤ y
    · have hdv : y / 2 ^ 8 < 256 := by omega
      have hbl : Sort.bitsLen y = 8 + Sort.bitsLen (y / 2 ^ 8) := bitsLen_shift (by omega)
      refine Q.rn ?_; (repeat (intro b1; refine Q.rn ?_))
      refine S.y (Y.shr (a := y) (b := 8) rfl rfl (by decide)) ?_
      generalize y / 2 ^ 8 = z at hdv hbl
      refine Q.rn ?_; (repeat (intro b1; refine Q.rn ?_))
      first | refine N.tn ?_ | skip
      exact ⟨(z, m + 8), ⟨rfl, rfl, trivial⟩, Ent.refl _, hdv, by dsimp only; omega, by dsimp only; omega⟩
    · refine Q.rn ?_; (repeat (intro b1; refine Q.rn ?_))
      first | refine N.tn ?_ | skip
      exact ⟨(y, m), ⟨rfl, rfl, trivial⟩, Ent.refl _, by dsimp only; omega, by dsimp only; omega, h3⟩
  clear h1 h2 h3
  rintro ⟨y, m⟩ ⟨h1, h2, h3⟩
  dsimp only at h1 h2 h3 ⊢
  refine Q.rn ?_; (repeat (intro b1; refine Q.rn ?_))
  have hy8 : IntKind.u8.wrap (y : Int) = (y : Int) := wrap_u8 (by omega) (by omega)
  refine S.y (Y.cvi rfl) ?_
  rw [hy8]
  have hb8 : Sort.bitsLen y ≤ 8 := by
    have : ∀ y : Nat, y < 256 → Sort.bitsLen y ≤ 8 := by decide +kernel
    exact this y h1
  refine S.y (Y.idx (i := y) (b := UInt8.ofNat (Sort.bitsLen y)) rfl rfl (by clear h2 h3 hy8 hb8 m; revert y; decide +kernel)) ?_
  have e8 : (UInt8.ofNat (Sort.bitsLen y)).toNat = Sort.bitsLen y := by simp; omega
  rw [e8]
  refine S.y (Y.cvi rfl) ?_
  rw [wrap_i64 (by omega) (by omega)]
  refine Q.rn ?_; (repeat (intro b1; refine Q.rn ?_))
  exact N.r1 (RV.tmp rfl RV.nil) (Ent.refl _) ⟨congrArg (Value.int .i64) (by omega), rfl⟩
theorem Len_spec (x : Nat) (hx : x < 18446744073709551616) (L : List HP) : CallsS Tryz.prog 175 [.int .u64 x] L (fun v L' => v = .int .i64 (Sort.bitsLen x) ∧ L' = L) := by
  refine CallsS.of_body Tryz.func175 rfl rfl rfl ?_
  refine Q.rn ?_; (repeat (intro b1; refine Q.rn ?_))
  refine S.cr rfl (Len64_spec x hx L) ?_
  rintro _ _ ⟨rfl, rfl⟩
  refine Q.rn ?_; (repeat (intro b1; refine Q.rn ?_))
  exact N.r1 (RV.tmp rfl RV.nil) (Ent.refl _) ⟨rfl, rfl⟩
theorem npow_spec (x : Nat) (hx : x ≤ 17592186044416) (L : List HP) : CallsS Tryz.prog 196 [.int .i64 x] L (fun v L' => v = .int .u64 ((1 <<< Sort.bitsLen x : Nat) : Int) ∧ L' = L) := by
  have hl : Sort.bitsLen x ≤ 45 := (Sort.bitsLen_le_iff x 45).2 (by omega)
  have hp : 2 ^ Sort.bitsLen x ≤ 2 ^ 45 := Nat.pow_le_pow_right (by omega) hl
  refine CallsS.of_body Tryz.func196 rfl rfl rfl ?_
  refine Q.rn ?_; (repeat (intro b1; refine Q.rn ?_))
  refine S.y (Y.cvi rfl) ?_
  rw [wrap_u64 (by omega) (by omega)]
  refine S.cr rfl (Len_spec x (by omega) L) ?_
  rintro _ _ ⟨rfl, rfl⟩
  refine S.y (Y.shl (a := 1) (b := Sort.bitsLen x) rfl rfl (Nat.le_trans hl (by decide))) ?_
  rw [show 1 * 2 ^ Sort.bitsLen x = 1 <<< Sort.bitsLen x by rw [Nat.one_shiftLeft, Nat.one_mul], wrap_u64 (Int.natCast_nonneg _) (by rw [Nat.one_shiftLeft]; generalize 2 ^ Sort.bitsLen x = q at hp; omega)]
  refine Q.rn ?_; (repeat (intro b1; refine Q.rn ?_))
  exact N.r1 (RV.tmp rfl RV.nil) (Ent.refl _) ⟨rfl, rfl⟩
abbrev RN (p : Nat) (r : UInt64) : HP := pt p (cl [.int .u64 (r.toNat : Int)] 298)
set_option maxHeartbeats 4000000 in
theorem Next_spec (p : Nat) (r : UInt64) (L : List HP) : CallsS Tryz.prog 197 [.pointer (some ⟨p, 0, none⟩)] (RN p r :: L) (fun v L' => v = .int .u64 ((Sort.xorNext r).toNat : Int) ∧ L' = RN p (Sort.xorNext r) :: L) := by
  refine CallsS.of_body Tryz.func197 rfl rfl rfl ?_
  refine Q.rn ?_; (repeat (intro b1; refine Q.rn ?_))
  refine Q.dgo [true] [9] [9] [0, 1, 2, 3, 4, 5, 6, 7, 8, 9] ?_
  (refine Q.rdn ?_; (repeat (intro b1; refine Q.rdn ?_)))
  refine D.yp rfl rfl rfl (Y.shl (a := _) (b := 13) rfl rfl (by decide)) ?_
  rw [shl64 _ 13 (by decide)]
  refine D.yp rfl rfl rfl (Y.xor rfl rfl) ?_
  rw [xor64]
  (refine Q.rdn ?_; (repeat (intro b1; refine Q.rdn ?_)))
  refine Q.dc rfl rfl rfl rfl ?_
  (refine Q.rn ?_; (repeat (intro b1; refine Q.rn ?_)))
  (refine Q.rdn ?_; (repeat (intro b1; refine Q.rdn ?_)))
  (refine Q.rn ?_; (repeat (intro b1; refine Q.rn ?_)))
  refine Q.dgo [true] [9] [9] [0, 1, 2, 3, 4, 5, 6, 7, 8, 9] ?_
  (refine Q.rdn ?_; (repeat (intro b1; refine Q.rdn ?_)))
  refine D.yp rfl rfl rfl (Y.shr (a := _) (b := 7) rfl rfl (by decide)) ?_
  rw [shr64 _ 7 (by decide)]
  refine D.yp rfl rfl rfl (Y.xor rfl rfl) ?_
  rw [xor64]
  (refine Q.rdn ?_; (repeat (intro b1; refine Q.rdn ?_)))
  refine Q.dc rfl rfl rfl rfl ?_
  (refine Q.rn ?_; (repeat (intro b1; refine Q.rn ?_)))
  (refine Q.rdn ?_; (repeat (intro b1; refine Q.rdn ?_)))
  (refine Q.rn ?_; (repeat (intro b1; refine Q.rn ?_)))
  refine Q.dgo [true] [9] [9] [0, 1, 2, 3, 4, 5, 6, 7, 8, 9] ?_
  (refine Q.rdn ?_; (repeat (intro b1; refine Q.rdn ?_)))
  refine D.yp rfl rfl rfl (Y.shl (a := _) (b := 17) rfl rfl (by decide)) ?_
  rw [shl64 _ 17 (by decide)]
  refine D.yp rfl rfl rfl (Y.xor rfl rfl) ?_
  rw [xor64]
  (refine Q.rdn ?_; (repeat (intro b1; refine Q.rdn ?_)))
  refine Q.dc rfl rfl rfl rfl ?_
  (refine Q.rn ?_; (repeat (intro b1; refine Q.rn ?_)))
  (refine Q.rdn ?_; (repeat (intro b1; refine Q.rdn ?_)))
  (refine Q.rn ?_; (repeat (intro b1; refine Q.rn ?_)))
  exact N.r1 (RV.tmp rfl RV.nil) (Ent.refl _) ⟨rfl, rfl⟩
end Go.Proofs.YtjidejcehmamkaaGreatDoor
namespace Go.Proofs.YtjidejcehmamkaaGreatDoor
open Go Go.SX
attribute [local irreducible] swp opsS thenS blockS retS CallsS St Ent YieldS anyS drawS
attribute [local irreducible] ar
def bkIt (a l m base : Nat) (d : Array Int) : Nat → UInt64 × Array Int
  | 0 => (UInt64.ofNat l, d)
  | k + 1 => Sort.breakStep a l m (bkIt a l m base d k) (base + k)
theorem bkIt_size (a l m base : Nat) (d : Array Int) : ∀ k, (bkIt a l m base d k).2.size = d.size
  | 0 => rfl
  | k + 1 => by simp only [bkIt, Sort.breakStep, swp_size]; exact bkIt_size a l m base d k
set_option maxHeartbeats 8000000 in
theorem breakPatterns_spec (bk n c a b : Nat) (d : Array Int) (rs : List Value) (L : List HP) (hd : d.size = n) (h8 : a + 8 ≤ b) (hb : b ≤ n) (hn : n ≤ 17592186044416) :
    CallsS Tryz.prog 186 [SV bk n c, .int .i64 a, .int .i64 b] (AR bk d rs :: L) (fun v L' => v = .tuple #[] ∧ L' = AR bk (Sort.breakPatterns d a b) rs :: L) := by
  have hl : Sort.bitsLen (b - a) ≤ 45 := (Sort.bitsLen_le_iff (b - a) 45).2 (by omega)
  have hp : 1 <<< Sort.bitsLen (b - a) ≤ 2 ^ 45 := by rw [Nat.one_shiftLeft]; exact Nat.pow_le_pow_right (by omega) hl
  have hp2 : 1 <<< Sort.bitsLen (b - a) ≤ 2 * (b - a) := by rw [Nat.one_shiftLeft]; exact Sort.two_pow_bitsLen_le (by omega)
  have hp0 : 0 < 1 <<< Sort.bitsLen (b - a) := by rw [Nat.one_shiftLeft]; exact Nat.two_pow_pos _
  have hres : Sort.breakPatterns d a b = (bkIt a (b - a) (1 <<< Sort.bitsLen (b - a)) (a + (b - a) / 4 * 2 - 1) d 3).2 := by
    unfold Sort.breakPatterns
    rw [if_pos (show b - a ≥ 8 by omega)]
    rfl
  rw [hres]
  clear hres
  obtain ⟨md, hmd⟩ : ∃ md, md = 1 <<< Sort.bitsLen (b - a) := ⟨_, rfl⟩
  have hu : IntKind.u64.wrap ((b - a : Nat) : Int) = ((UInt64.ofNat (b - a)).toNat : Int) := by
    rw [wrap_u64 (by omega) (by omega)]; simp; omega
  refine CallsS.of_body Tryz.func186 rfl rfl rfl ?_
  refine Q.rn ?_; (repeat (intro b1; refine Q.rn ?_))
  refine S.y (Y.cvi rfl) ?_
  rw [hu]
  refine Q.rn ?_; (repeat (intro b1; refine Q.rn ?_))
  refine S.cr rfl (npow_spec (b - a) (by omega) _) ?_
  rintro _ _ ⟨rfl, rfl⟩
  rw [← hmd] at hp hp2 hp0 ⊢
  refine Q.rn ?_; (repeat (intro b1; refine Q.rn ?_))
  obtain ⟨base, hbase⟩ : ∃ base, base = a + (b - a) / 4 * 2 - 1 := ⟨_, rfl⟩
  rw [← hbase]
  refine swp_loop (σ := Nat) (fun k => [(0, SV bk n c), (1, .int .i64 a), (6, .int .i64 (b - a : Nat)), (7, .pointer (some ⟨b1, 0, none⟩)), (8, .int .u64 md), (9, .int .i64 (base + k : Nat))])
    (fun k => RN b1 (bkIt a (b - a) md base d k).1 :: AR bk (bkIt a (b - a) md base d k).2 rs :: L) (fun k => k ≤ 3) (fun k => 3 - k) 0 ⟨rfl, rfl, rfl, rfl, rfl, rfl, trivial⟩ (Ent.refl _) (by omega) ?_
  intro k hk
  have hsz := bkIt_size a (b - a) md base d k
  rw [hd] at hsz
  by_cases hk3 : k = 3
  · subst hk3
    refine Q.rn ?_; (repeat (intro b1; refine Q.rn ?_))
    refine N.n0 RV.nil (Ent.drop (Ent.refl _)) ⟨rfl, rfl⟩
  · have hnx : bkIt a (b - a) md base d (k + 1) = Sort.breakStep a (b - a) md (bkIt a (b - a) md base d k) (base + k) := rfl
    have hgoal : ∀ r e, (Sort.xorNext (bkIt a (b - a) md base d k).1) = r → (bkIt a (b - a) md base d k).2 = e → bkIt a (b - a) md base d (k + 1) = (r, Sort.swp e (base + k) (a + (if r.toNat &&& (md - 1) ≥ b - a then (r.toNat &&& (md - 1)) - (b - a) else r.toNat &&& (md - 1)))) := fun r e h1 h2 => by rw [hnx, ← h1, ← h2]; rfl
    refine Q.rn ?_; (repeat (intro b1; refine Q.rn ?_))
    refine S.cr rfl (Next_spec b1 _ _) ?_
    rintro _ _ ⟨rfl, rfl⟩
    generalize hr : Sort.xorNext (bkIt a (b - a) md base d k).1 = r at hgoal
    generalize he : (bkIt a (b - a) md base d k).2 = e at hgoal hsz
    have hg := hgoal r e rfl rfl
    have hand : r.toNat &&& (md - 1) ≤ md - 1 := Nat.and_le_right
    refine Q.rn ?_; (repeat (intro b1; refine Q.rn ?_))
    refine S.y (Y.sub rfl rfl) ?_
    rw [show ((md : Int) - 1) = ((md - 1 : Nat) : Int) by omega, wrap_u64 (by omega) (by omega)]
    refine S.y (Y.and rfl rfl) ?_
    rw [and64 _ _ (by have := r.toNat_lt; omega) (by omega)]
    refine S.y (Y.cvi rfl) ?_
    rw [wrap_i64 (by omega) (by omega)]
    obtain ⟨o, ho⟩ : ∃ o, o = r.toNat &&& (md - 1) := ⟨_, rfl⟩
    rw [← ho] at hand hg ⊢
    by_cases hol : o ≥ b - a
    · rw [if_pos hol] at hg
      refine Q.rn ?_; (repeat (intro b1; refine Q.rn ?_))
      refine Q.dgo [false, true] [17, 19] [17] [0, 1, 2, 3, 4, 5, 6, 7, 8, 9, 10, 11, 12, 13, 14, 15, 16, 17, 18, 19] ?_
      (refine Q.rdn ?_; (repeat (intro b1; refine Q.rdn ?_))); refine Q.dc rfl rfl rfl rfl ?_; (refine Q.rn ?_; (repeat (intro b1; refine Q.rn ?_))); (refine Q.rdn ?_; (repeat (intro b1; refine Q.rdn ?_))); refine D.e rfl rfl rfl ?_; (refine Q.rn ?_; (repeat (intro b1; refine Q.rn ?_))); (refine Q.rdn ?_; (repeat (intro b1; refine Q.rdn ?_))); (refine Q.rn ?_; (repeat (intro b1; refine Q.rn ?_)))
      refine ⟨k + 1, ⟨rfl, rfl, rfl, rfl, rfl, rfl, trivial⟩, ?_, by omega, by omega⟩
      rw [hg]
      exact Ent.perm (.swap _ _ _)
    · rw [if_neg hol] at hg
      refine Q.rn ?_; (repeat (intro b1; refine Q.rn ?_))
      refine Q.dgo [false, true] [17, 19] [17] [0, 1, 2, 3, 4, 5, 6, 7, 8, 9, 10, 11, 12, 13, 14, 15, 16, 17, 18, 19] ?_
      (refine Q.rdn ?_; (repeat (intro b1; refine Q.rdn ?_))); refine Q.dc rfl rfl rfl rfl ?_; (refine Q.rn ?_; (repeat (intro b1; refine Q.rn ?_))); (refine Q.rdn ?_; (repeat (intro b1; refine Q.rdn ?_))); refine D.e rfl rfl rfl ?_; (refine Q.rn ?_; (repeat (intro b1; refine Q.rn ?_))); (refine Q.rdn ?_; (repeat (intro b1; refine Q.rdn ?_))); (refine Q.rn ?_; (repeat (intro b1; refine Q.rn ?_)))
      refine ⟨k + 1, ⟨rfl, rfl, rfl, rfl, rfl, rfl, trivial⟩, ?_, by omega, by omega⟩
      rw [hg]
      exact Ent.perm (.swap _ _ _)
end Go.Proofs.YtjidejcehmamkaaGreatDoor
namespace Go.Proofs.YtjidejcehmamkaaGreatDoor
open Go Go.SX
attribute [local irreducible] swp opsS thenS blockS retS CallsS St Ent YieldS anyS drawS
attribute [local irreducible] ar
abbrev lI := Sort.ltInt
theorem below_perm {a b : Nat} {d d' : Array Int} (h : Sort.Below lI a b d) (hb : b ≤ d.size) (hp : Sort.PermIn a b d d') : Sort.Below lI a b d' := Sort.Below.permA Sort.permIn_all hb h hp
set_option maxHeartbeats 20000000 in
theorem pdq_spec (bk n c : Nat) (rs : List Value) (L : List HP) (hn : n ≤ 17592186044416) : ∀ (k a b lim : Nat) (d : Array Int), b - a = k → d.size = n → a ≤ b → b ≤ n → lim ≤ 1000 → Sort.Below lI a b d →
    CallsS Tryz.prog 174 [SV bk n c, .int .i64 a, .int .i64 b, .int .i64 lim] (AR bk d rs :: L) (fun v L' => v = .tuple #[] ∧ ∃ e, L' = AR bk e rs :: L ∧ Sort.PermIn a b d e ∧ Sort.SortedIn lI a b e) := by
  intro k
  induction k using Nat.strongRecOn with
  | _ k ih =>
  intro a b lim d hk hd hab hb hlim hbel
  refine CallsS.of_body Tryz.func174 rfl rfl rfl ?_
  refine Q.rn ?_; (repeat (intro b1; refine Q.rn ?_))
  refine swp_loop (σ := Nat × Nat × Nat × Bool × Bool × Array Int) (fun s => [(0, SV bk n c), (1, .int .i64 s.1), (2, .int .i64 s.2.1), (3, .int .i64 s.2.2.1), (8, .bool s.2.2.2.1), (9, .bool s.2.2.2.2.1)]) (fun s => AR bk s.2.2.2.2.2 rs :: L)
    (fun s => s.1 ≤ s.2.1 ∧ s.2.1 ≤ n ∧ s.2.1 - s.1 ≤ k ∧ s.2.2.1 ≤ 1000 ∧ s.2.2.2.2.2.size = n ∧ Sort.Below lI s.1 s.2.1 s.2.2.2.2.2 ∧ ∀ R, Sort.PermIn s.1 s.2.1 s.2.2.2.2.2 R → Sort.SortedIn lI s.1 s.2.1 R → Sort.PermIn a b d R ∧ Sort.SortedIn lI a b R)
    (fun s => s.2.1 - s.1) (a, b, lim, true, true, d) ⟨rfl, rfl, rfl, rfl, rfl, rfl, trivial⟩ (Ent.refl _) ⟨hab, hb, Nat.le_of_eq hk, hlim, hd, hbel, fun R h1 h2 => ⟨h1, h2⟩⟩ ?_
  rintro ⟨a1, b1, lm, wb, wp, e⟩ ⟨g1, g2, g3, g4, g5, g6, g7⟩
  dsimp only at g1 g2 g3 g4 g5 g6 g7 ⊢
  by_cases h12 : b1 - a1 ≤ 12
  · refine Q.rn ?_; (repeat (intro b1; refine Q.rn ?_))
    refine S.cr rfl (insertionSort_spec bk n c a1 b1 e rs L g5 (by omega) g2 (by omega)) ?_
    rintro _ _ ⟨rfl, rfl⟩
    refine Q.rn ?_; (repeat (intro b1; refine Q.rn ?_))
    have := Sort.insertionSort_holds Sort.swo_ltInt e a1 b1 g1 (by omega)
    exact N.r0 RV.nil (Ent.refl _) ⟨rfl, _, rfl, g7 _ this.1 this.2⟩
  by_cases hl0 : lm = 0
  · subst hl0
    refine Q.rn ?_; (repeat (intro b1; refine Q.rn ?_))
    refine S.cr rfl (heapSort_spec bk n c a1 b1 e rs L g5 (by omega) g2 hn) ?_
    rintro _ _ ⟨rfl, rfl⟩
    refine Q.rn ?_; (repeat (intro b1; refine Q.rn ?_))
    have := Sort.heapSort_holds Sort.swo_ltInt e a1 b1 g1 (by omega)
    exact N.r0 RV.nil (Ent.refl _) ⟨rfl, _, rfl, g7 _ this.1 this.2⟩
  refine Q.rn ?_; (repeat (intro b1; refine Q.rn ?_))
  refine swp_cutT (σ := Nat × Array Int) (fun s => [(0, SV bk n c), (1, .int .i64 a1), (2, .int .i64 b1), (3, .int .i64 s.1), (8, .bool wb), (9, .bool wp), (10, .int .i64 (b1 - a1 : Nat))]) (fun s => AR bk s.2 rs :: L) (fun s => s.1 ≤ 1000 ∧ Sort.PermIn a1 b1 e s.2) ?_ ?_
  · cases wb with
    | true =>
      refine Q.rn ?_; (repeat (intro b1; refine Q.rn ?_))
      first | refine N.tn ?_ | skip
      exact ⟨(lm, e), ⟨rfl, rfl, rfl, rfl, rfl, rfl, rfl, trivial⟩, Ent.refl _, g4, Sort.permIn_refl _ _ _⟩
    | false =>
      refine Q.rn ?_; (repeat (intro b1; refine Q.rn ?_))
      refine S.cr rfl (breakPatterns_spec bk n c a1 b1 e rs L g5 (by omega) g2 hn) ?_
      rintro _ _ ⟨rfl, rfl⟩
      refine Q.rn ?_; (repeat (intro b1; refine Q.rn ?_))
      first | refine N.tn ?_ | skip
      exact ⟨(lm - 1, _), ⟨rfl, rfl, rfl, rfl, rfl, rfl, rfl, trivial⟩, Ent.refl _, by dsimp only; omega, Sort.breakPatterns_holds _ _ _ g1 (by omega)⟩
  rintro ⟨l1, e1⟩ ⟨q1, q2⟩
  dsimp only at q1 q2 ⊢
  have q3 : e1.size = n := by rw [q2.1]; exact g5
  refine Q.rn ?_; (repeat (intro b1; refine Q.rn ?_))
  refine S.cr rfl (choosePivot_spec bk n c a1 b1 e1 rs L q3 (by omega) g2 hn) ?_
  rintro _ _ ⟨rfl, rfl⟩
  have hcp := Sort.choosePivot_holds Sort.ltInt e1 a1 b1 (by omega)
  generalize Sort.choosePivot Sort.ltInt e1 a1 b1 = cp at hcp
  obtain ⟨pv, hint⟩ := cp
  dsimp only at hcp ⊢
  refine Q.rn ?_; (repeat (intro b1; refine Q.rn ?_))
  refine swp_cutT (σ := Nat × Int × Array Int) (fun s => [(0, SV bk n c), (1, .int .i64 a1), (2, .int .i64 b1), (3, .int .i64 l1), (8, .bool wb), (9, .bool wp), (10, .int .i64 (b1 - a1 : Nat)), (11, .int .i64 s.1), (12, .int .i64 s.2.1)]) (fun s => AR bk s.2.2 rs :: L) (fun s => a1 ≤ s.1 ∧ s.1 < b1 ∧ Sort.PermIn a1 b1 e1 s.2.2) ?_ ?_
  · by_cases hdec : hintN hint = 2
    · refine Q.rn ?_; (repeat (intro b1; refine Q.rn ?_))
      refine S.cr rfl (reverseRange_spec bk n c a1 b1 e1 rs L q3 (by omega) g2 hn) ?_
      rintro _ _ ⟨rfl, rfl⟩
      refine Q.rn ?_; (repeat (intro b1; refine Q.rn ?_))
      first | refine N.tn ?_ | skip
      exact ⟨(b1 - 1 - (pv - a1), 1, _), ⟨rfl, rfl, rfl, rfl, rfl, rfl, rfl, rfl, rfl, trivial⟩, Ent.refl _, by dsimp only; omega, by dsimp only; omega, Sort.reverseRange_holds _ _ _ g1 (by omega)⟩
    · refine Q.rn ?_; (repeat (intro b1; refine Q.rn ?_))
      first | refine N.tn ?_ | skip
      exact ⟨(pv, hintN hint, e1), ⟨rfl, rfl, rfl, rfl, rfl, rfl, rfl, rfl, rfl, trivial⟩, Ent.refl _, hcp.1, hcp.2, Sort.permIn_refl _ _ _⟩
  clear hcp
  rintro ⟨p, hh, e2⟩ ⟨p1, p2, p3⟩
  dsimp only at p1 p2 p3 ⊢
  have p4 : e2.size = n := by rw [p3.1]; exact q3
  have p5 : Sort.PermIn a1 b1 e e2 := Sort.permIn_trans _ _ _ a1 b1 q2 p3
  have p6 : Sort.Below lI a1 b1 e2 := below_perm g6 (by omega) p5
  clear p3 q2 q3
  repeat (refine swp_seq ?_)
  refine swp_cutT (σ := Bool) (fun s => [(0, SV bk n c), (1, .int .i64 a1), (2, .int .i64 b1), (3, .int .i64 l1), (8, .bool wb), (9, .bool wp), (10, .int .i64 (b1 - a1 : Nat)), (11, .int .i64 p), (68, .bool s)]) (fun s => AR bk e2 rs :: L) (fun s => True) ?_ ?_
  · cases wb with
    | false =>
      refine Q.rn ?_; (repeat (intro b1; refine Q.rn ?_))
      exact ⟨_, ⟨rfl, rfl, rfl, rfl, rfl, rfl, rfl, rfl, rfl, trivial⟩, Ent.refl _, trivial⟩
    | true =>
      cases wp with
      | false =>
        refine Q.rn ?_; (repeat (intro b1; refine Q.rn ?_))
        exact ⟨_, ⟨rfl, rfl, rfl, rfl, rfl, rfl, rfl, rfl, rfl, trivial⟩, Ent.refl _, trivial⟩
      | true =>
        refine Q.rn ?_; (repeat (intro b1; refine Q.rn ?_))
        exact ⟨_, ⟨rfl, rfl, rfl, rfl, rfl, rfl, rfl, rfl, rfl, trivial⟩, Ent.refl _, trivial⟩
  intro t68 _
  refine swp_cutT (σ := Array Int) (fun s => [(0, SV bk n c), (1, .int .i64 a1), (2, .int .i64 b1), (3, .int .i64 l1), (8, .bool wb), (9, .bool wp), (10, .int .i64 (b1 - a1 : Nat)), (11, .int .i64 p)]) (fun s => AR bk s rs :: L) (fun s => Sort.PermIn a1 b1 e s) ?_ ?_
  · cases t68 with
    | false =>
      refine Q.rn ?_; (repeat (intro b1; refine Q.rn ?_))
      first | refine N.tn ?_ | skip
      exact ⟨e2, ⟨rfl, rfl, rfl, rfl, rfl, rfl, rfl, rfl, trivial⟩, Ent.refl _, p5⟩
    | true =>
      refine Q.rn ?_; (repeat (intro b1; refine Q.rn ?_))
      refine S.cr rfl (partialInsertionSort_spec bk n c a1 b1 e2 rs L p4 (by omega) g2 hn) ?_
      rintro _ _ ⟨rfl, rfl⟩
      have hpi := Sort.partialInsertionSort_holds Sort.swo_ltInt e2 a1 b1 (by omega) (by omega) p6
      have hpp := Sort.permIn_trans _ _ _ a1 b1 p5 hpi.1
      cases hr : (Sort.partialInsertionSort Sort.ltInt e2 a1 b1).2 with
      | true =>
        refine Q.rn ?_; (repeat (intro b1; refine Q.rn ?_))
        exact N.r0 RV.nil (Ent.refl _) ⟨rfl, _, rfl, g7 _ hpp (hpi.2 hr)⟩
      | false =>
        refine Q.rn ?_; (repeat (intro b1; refine Q.rn ?_))
        first | refine N.tn ?_ | skip
        exact ⟨_, ⟨rfl, rfl, rfl, rfl, rfl, rfl, rfl, rfl, trivial⟩, Ent.refl _, hpp⟩
  clear p4 p5 p6
  intro e3 p5
  have p4 : e3.size = n := by rw [p5.1]; exact g5
  have p6 : Sort.Below lI a1 b1 e3 := below_perm g6 (by omega) p5
  repeat (refine swp_seq ?_)
  refine swp_cutT (σ := Bool) (fun s => [(0, SV bk n c), (1, .int .i64 a1), (2, .int .i64 b1), (3, .int .i64 l1), (8, .bool wb), (9, .bool wp), (10, .int .i64 (b1 - a1 : Nat)), (11, .int .i64 p), (87, .bool s)]) (fun s => AR bk e3 rs :: L) (fun s => s = (decide (a1 > 0) && !lI e3[a1 - 1]! e3[p]!)) ?_ ?_
  · by_cases ha0 : 0 < a1
    · refine Q.rn ?_; (repeat (intro b1; refine Q.rn ?_))
      refine Q.dgo [true] [12] [] [0, 1, 2, 3, 4, 5, 6, 7, 8, 9, 10, 11, 12, 13, 14] ?_
      refine Q.rdn ?_; (repeat (intro b1; refine Q.rdn ?_))
      refine D.e rfl rfl rfl ?_
      refine S.guard rfl ?_
      refine S.cr rfl (Less_spec _ _ _) ?_
      rintro _ M ⟨rfl, rfl⟩
      refine Q.rn ?_; (repeat (intro b1; refine Q.rn ?_))
      refine Q.rdn ?_; (repeat (intro b1; refine Q.rdn ?_))
      first | refine N.tn ?_ | skip
      exact ⟨_, ⟨rfl, rfl, rfl, rfl, rfl, rfl, rfl, rfl, rfl, trivial⟩, Ent.refl _, by simp [ha0]⟩
    · refine Q.rn ?_; (repeat (intro b1; refine Q.rn ?_))
      refine Q.dgo [true] [12] [] [0, 1, 2, 3, 4, 5, 6, 7, 8, 9, 10, 11, 12, 13, 14] ?_
      refine Q.rdn ?_; (repeat (intro b1; refine Q.rdn ?_))
      first | refine N.tn ?_ | skip
      exact ⟨_, ⟨rfl, rfl, rfl, rfl, rfl, rfl, rfl, rfl, rfl, trivial⟩, Ent.refl _, by simp [ha0]⟩
  intro s hs
  cases s with
  | true =>
    symm at hs
    simp only [Bool.and_eq_true, decide_eq_true_eq, Bool.not_eq_true'] at hs
    refine Q.rn ?_; (repeat (intro b1; refine Q.rn ?_))
    refine S.cr rfl (partitionEqual_spec bk n c a1 b1 p e3 rs L p4 p1 p2 g2 hn) ?_
    rintro _ _ ⟨rfl, rfl⟩
    cases hx : Sort.partitionEqual Sort.ltInt e3 a1 b1 p with
    | mk mid e4 =>
    obtain ⟨r1, r2, r3, r4, r5⟩ := Sort.round_eq Sort.swo_ltInt (Sort.partitionEqual_holds Sort.ltInt) hs.1 p1 p2 (by omega) p6 hs.2 hx
    refine Q.rn ?_; (repeat (intro b1; refine Q.rn ?_))
    refine ⟨(mid, b1, l1, wb, wp, e4), ⟨rfl, rfl, rfl, rfl, rfl, rfl, trivial⟩, Ent.refl _, ⟨by dsimp only; omega, g2, by dsimp only; omega, q1, by dsimp only; omega, r4, fun R h1 h2 => ?_⟩, by dsimp only; omega⟩
    have := r5 R h1 h2
    exact g7 R (Sort.permIn_trans _ _ _ a1 b1 p5 this.1) this.2
  | false =>
    clear hs
    refine Q.rn ?_; (repeat (intro b1; refine Q.rn ?_))
    refine S.cr rfl (partition_spec bk n c a1 b1 p e3 rs L p4 p1 p2 g2 hn) ?_
    rintro _ _ ⟨rfl, rfl⟩
    rcases hx : Sort.partition Sort.ltInt e3 a1 b1 p with ⟨mid, ap, e4⟩
    obtain ⟨r1, r2, r3, r4, r5, r6, r7⟩ := Sort.round_part Sort.swo_ltInt (Sort.partition_holds Sort.ltInt) p1 p2 (by omega) p6 hx
    refine Q.rn ?_; (repeat (intro b1; refine Q.rn ?_))
    by_cases hlt : mid - a1 < b1 - mid
    · refine Q.rn ?_; (repeat (intro b1; refine Q.rn ?_))
      refine S.cr rfl (ih (mid - a1) (by omega) a1 mid l1 e4 rfl (by omega) r1 (by omega) q1 r4) ?_
      rintro _ _ ⟨rfl, e5, rfl, u1, u2⟩
      obtain ⟨w1, w2⟩ := r6 e5 u1 u2
      refine Q.rn ?_; (repeat (intro b1; refine Q.rn ?_))
      refine ⟨(mid + 1, b1, l1, _, ap, e5), ⟨rfl, rfl, rfl, rfl, rfl, rfl, trivial⟩, Ent.refl _, ⟨by dsimp only; omega, g2, by dsimp only; omega, q1, by dsimp only; rw [u1.1]; omega, w1, fun R h1 h2 => ?_⟩, by dsimp only; omega⟩
      have := w2 R h1 h2
      exact g7 R (Sort.permIn_trans _ _ _ a1 b1 p5 this.1) this.2
    · refine Q.rn ?_; (repeat (intro b1; refine Q.rn ?_))
      refine S.cr rfl (ih (b1 - (mid + 1)) (by omega) (mid + 1) b1 l1 e4 rfl (by omega) (by omega) g2 q1 r5) ?_
      rintro _ _ ⟨rfl, e5, rfl, u1, u2⟩
      obtain ⟨w1, w2⟩ := r7 e5 u1 u2
      refine Q.rn ?_; (repeat (intro b1; refine Q.rn ?_))
      refine ⟨(a1, mid, l1, _, ap, e5), ⟨rfl, rfl, rfl, rfl, rfl, rfl, trivial⟩, Ent.refl _, ⟨r1, by dsimp only; omega, by dsimp only; omega, q1, by dsimp only; rw [u1.1]; omega, w1, fun R h1 h2 => ?_⟩, by dsimp only; omega⟩
      have := w2 R h1 h2
      exact g7 R (Sort.permIn_trans _ _ _ a1 b1 p5 this.1) this.2
end Go.Proofs.YtjidejcehmamkaaGreatDoor
namespace Go.Proofs.YtjidejcehmamkaaGreatDoor
open Go Go.SX
attribute [local irreducible] swp opsS thenS blockS retS CallsS St Ent YieldS anyS drawS
def sortL (xs : List Int) : List Int := xs.mergeSort fun x y => decide (x ≤ y)
theorem sortL_perm (xs : List Int) : (sortL xs).Perm xs := List.mergeSort_perm _ _
theorem sortL_len (xs : List Int) : (sortL xs).length = xs.length := (sortL_perm xs).length_eq
theorem sortL_sorted (xs : List Int) : (sortL xs).Pairwise (· ≤ ·) := by
  have := List.pairwise_mergeSort (le := fun x y : Int => decide (x ≤ y)) (fun a b c h1 h2 => by simp at *; omega) (fun a b => by simp; omega) xs
  exact this.imp fun h => by simpa using h
theorem sorted_uniq : ∀ {l1 l2 : List Int}, l1.Perm l2 → l1.Pairwise (· ≤ ·) → l2.Pairwise (· ≤ ·) → l1 = l2
  | [], l2, h, _, _ => by simpa using h
  | x :: l1, [], h, _, _ => by simp at h
  | x :: l1, y :: l2, h, h1, h2 => by
    have hx : x ∈ y :: l2 := h.subset (by simp)
    have hy : y ∈ x :: l1 := h.symm.subset (by simp)
    have e : x = y := by
      rcases List.mem_cons.1 hx with e | hx
      · exact e
      · rcases List.mem_cons.1 hy with e | hy
        · exact e.symm
        · have a := (List.pairwise_cons.1 h2).1 x hx
          have b := (List.pairwise_cons.1 h1).1 y hy
          omega
    subst e
    rw [sorted_uniq ((List.perm_cons x).1 h) (List.pairwise_cons.1 h1).2 (List.pairwise_cons.1 h2).2]
theorem sortL_eq {xs ys : List Int} (h : xs.Perm ys) : sortL xs = sortL ys := sorted_uniq ((sortL_perm xs).trans (h.trans (sortL_perm ys).symm)) (sortL_sorted _) (sortL_sorted _)
theorem insertionSort_zero (sv : Value) (L : List HP) : CallsS Tryz.prog 184 [sv, .int .i64 (0 : Nat), .int .i64 (0 : Nat)] L (fun v L' => v = .tuple #[] ∧ L' = L) := by
  refine CallsS.of_body Tryz.func184 rfl rfl rfl ?_
  refine Q.rn ?_; (repeat (intro b1; refine Q.rn ?_))
  refine swp_loop (σ := Unit) (fun s => [(2, .int .i64 (0 : Nat)), (6, .int .i64 (1 : Nat))]) (fun s => L) (fun s => True) (fun s => 0) () ⟨rfl, rfl, trivial⟩ (Ent.refl _) trivial ?_
  intro _ _
  refine Q.rn ?_; (repeat (intro b1; refine Q.rn ?_))
  exact N.n0 RV.nil (Ent.refl _) ⟨rfl, rfl⟩
theorem pdq_zero (sv : Value) (lim : Nat) (L : List HP) : CallsS Tryz.prog 174 [sv, .int .i64 (0 : Nat), .int .i64 (0 : Nat), .int .i64 lim] L (fun v L' => v = .tuple #[] ∧ L' = L) := by
  refine CallsS.of_body Tryz.func174 rfl rfl rfl ?_
  refine Q.rn ?_; (repeat (intro b1; refine Q.rn ?_))
  refine swp_loop (σ := Unit) (fun s => [(0, sv), (1, .int .i64 (0 : Nat)), (2, .int .i64 (0 : Nat))]) (fun s => L) (fun s => True) (fun s => 0) () ⟨rfl, rfl, rfl, trivial⟩ (Ent.refl _) trivial ?_
  intro _ _
  refine Q.rn ?_; (repeat (intro b1; refine Q.rn ?_))
  refine S.cr rfl (insertionSort_zero _ _) ?_
  rintro _ _ ⟨rfl, rfl⟩
  refine Q.rn ?_; (repeat (intro b1; refine Q.rn ?_))
  exact N.r0 RV.nil (Ent.refl _) ⟨rfl, rfl⟩
theorem ar_toList {k : IntKind} {d : Array Int} {rs : List Value} : ar k d rs = d.toList.map (Value.int k) ++ rs := rfl
set_option maxHeartbeats 2000000 in
theorem Sort_spec (a : Option Addr) (m c : Nat) (xs : List Int) (L : List HP) (hm : m = xs.length) (hn : m ≤ 17592186044416) :
    CallsS Tryz.prog 146 [.slice a m c] (slO 30 1 a m c (xs.map U64) :: L) (fun v L' => v = .tuple #[] ∧ L' = slO 30 1 a m c ((sortL xs).map U64) :: L) := by
  have hu : IntKind.u64.wrap (m : Int) = (m : Int) := wrap_u64 (by omega) (by omega)
  have hl : Sort.bitsLen m ≤ 45 := (Sort.bitsLen_le_iff m 45).2 (by omega)
  by_cases h0 : m = 0
  · have hx : xs = [] := List.eq_nil_of_length_eq_zero (by omega)
    subst hx
    have hs : sortL [] = [] := by simp [sortL]
    rw [hs]
    refine CallsS.of_body Tryz.func146 rfl rfl rfl ?_
    refine Q.rn ?_; (repeat (intro b1; refine Q.rn ?_))
    refine S.y (Y.cvi rfl) ?_
    rw [hu]
    refine Q.rn ?_; (repeat (intro b1; refine Q.rn ?_))
    refine S.cr rfl (Len_spec m (by omega) _) ?_
    rintro _ _ ⟨rfl, rfl⟩
    subst h0
    refine S.cr rfl (pdq_zero _ (Sort.bitsLen 0) _) ?_
    rintro _ _ ⟨rfl, rfl⟩
    refine Q.rn ?_; (repeat (intro b1; refine Q.rn ?_))
    exact N.n0 RV.nil (Ent.refl _) ⟨rfl, rfl⟩
  refine CallsS.slO (by omega) fun b rest ha hmc hlen => ?_
  subst ha
  refine CallsS.of_body Tryz.func146 rfl rfl rfl ?_
  refine Q.rn ?_; (repeat (intro b1; refine Q.rn ?_))
  refine S.y (Y.cvi rfl) ?_
  rw [hu]
  refine Q.rn ?_; (repeat (intro b1; refine Q.rn ?_))
  refine S.cr rfl (Len_spec m (by omega) _) ?_
  rintro _ _ ⟨rfl, rfl⟩
  have hd : xs.toArray.size = m := by simp [hm]
  refine S.cr rfl (pdq_spec b m c rest _ hn m 0 m (Sort.bitsLen m) xs.toArray (by omega) hd (by omega) (Nat.le_refl _) (by omega) (.inl rfl)) ?_
  rintro _ _ ⟨rfl, e, rfl, h1, h2⟩
  have he : e.toList = sortL xs := by
    have := Sort.sorted_unique_holds (lt := Sort.ltInt) Sort.swo_ltInt (fun x y h1 h2 => by simp [Sort.ltInt] at h1 h2; omega) xs.toArray e (by rw [hd]; exact h1) (by rw [hd]; exact h2)
    rw [this]
    unfold sortL
    congr 1
    funext x y
    simp [Sort.ltInt]
    by_cases h : x ≤ y <;> simp [h] <;> omega
  refine Q.rn ?_; (repeat (intro b1; refine Q.rn ?_))
  refine N.n0 RV.nil ?_ ⟨rfl, rfl⟩
  have hen : (ar .u64 e rest) = (sortL xs).map U64 ++ rest := by rw [ar_toList, he]
  unfold AR
  rw [hen]
  exact slO_shut (by simp [sortL_len, hm]) hmc (by simpa [sortL_len] using hlen)
theorem Sorted_spec (gf : FuncId) (lb : List Value) [he : Enters Tryz.prog gf] (ks : List Int) (A A' : List HP) (hk : ks.length ≤ 17592186044416) (hseq : SeqS Tryz.prog gf lb U64 ks.length (fun xs => xs.Perm ks) A A') :
    CallsS Tryz.prog 90 [.func (.func gf) #[] lb.toArray] A (fun v L' => ∃ a c, v = .slice a ks.length c ∧ L' = slO 30 1 a ks.length c ((sortL ks).map U64) :: A') := by
  refine CallsS.of_body Tryz.func90 rfl rfl rfl ?_
  refine Q.r ?_; (repeat (intro b1; refine Q.r ?_))
  refine S.cr rfl (Collect_spec gf lb _ A A' (hseq.mono hk)) ?_
  rintro _ _ ⟨xs, a, c, hp, rfl, rfl⟩
  have hl := hp.length_eq
  refine Q.r ?_; (repeat (intro b1; refine Q.r ?_))
  refine S.cr rfl (Sort_spec a xs.length c xs A' rfl (by omega)) ?_
  rintro _ _ ⟨rfl, rfl⟩
  rw [sortL_eq hp, hl]
  refine Q.r ?_; (repeat (intro b1; refine Q.r ?_))
  exact N.r1 (RV.tmp rfl RV.nil) (Ent.refl _) ⟨a, c, rfl, rfl⟩
end Go.Proofs.YtjidejcehmamkaaGreatDoor
namespace Go.Proofs.YtjidejcehmamkaaGreatDoor
open Go Go.SX
attribute [local irreducible] swp opsS thenS blockS retS CallsS St Ent YieldS anyS drawS
theorem chs_mem {M : Nat → Option Obj} {cs : List CR} {x : CR} (h : x ∈ cs) : ∃ R : HP, ∀ L, Ent (chsH M cs :: L) (chainH M x.2.1 x.2.2 :: R :: L) ∧ Ent (chainH M x.2.1 x.2.2 :: R :: L) (chsH M cs :: L) := by
  obtain ⟨p, q, rfl⟩ := List.append_of_mem h
  exact ⟨_, fun L => ⟨chs_out, chs_in⟩⟩
theorem Ids_spec (v mc mi : Nat) (dim mark : Int) (cs : List CR) (A : List HP) (hn : cs.length ≤ 17592186044416) :
    CallsS Tryz.prog 117 [ptrV v] (vP v mc mi dim mark :: vC mc cs :: A) (fun r L' => ∃ a c, r = .slice a cs.length c ∧ L' = slO 30 1 a cs.length c ((sortL (cs.map (·.1))).map U64) :: vP v mc mi dim mark :: vC mc cs :: A) := by
  refine CallsS.of_body Tryz.func117 rfl rfl rfl ?_
  refine Q.r ?_; (repeat (intro b1; refine Q.r ?_))
  refine S.cr rfl (MapKeysC_spec (some mc) _) ?_
  rintro _ _ ⟨bm, rfl, rfl⟩
  refine Q.r ?_; (repeat (intro b1; refine Q.r ?_))
  refine opsS_ent (Ent.cons (Ent.perm (.swap _ _ _))) ?_
  have hs := KeysC_spec ptrV bm mc (cs.map fun c => (c.1, c.2.1)) (vP v mc mi dim mark :: A)
  rw [List.length_map, List.map_map] at hs
  refine S.cr rfl (Sorted_spec _ _ (cs.map (·.1)) _ _ (by rw [List.length_map]; exact hn) (by rw [List.length_map]; exact hs)) ?_
  rintro _ _ ⟨a, c, rfl, rfl⟩
  refine Q.r ?_; (repeat (intro b1; refine Q.r ?_))
  rw [List.length_map]
  exact N.r1 (RV.tmp rfl RV.nil) (Ent.cons (Ent.perm (.swap _ _ _))) ⟨a, c, rfl, rfl⟩
end Go.Proofs.YtjidejcehmamkaaGreatDoor
namespace Go.Proofs.YtjidejcehmamkaaGreatDoor
open Go Go.SX
attribute [local irreducible] swp opsS thenS blockS retS CallsS St Ent YieldS anyS drawS
end Go.Proofs.YtjidejcehmamkaaGreatDoor
namespace Go.Proofs.YtjidejcehmamkaaGreatDoor
open Go Go.SX
attribute [local irreducible] swp opsS thenS blockS retS CallsS St Ent YieldS anyS drawS
def fewV (k : Nat) (ops : VL) : VL := (ops.take k).map fun o => (o.1, o.2.take 10)
theorem fewV_all {n : Nat} {l : VL} (h : l.length ≤ n) : fewV n l = l.map fun o => (o.1, o.2.take 10) := by unfold fewV; rw [List.take_of_length_le h]
set_option maxHeartbeats 1000000 in
theorem FewA_spec (n : Nat) (a : Option Addr) (c : Nat) (ops : List OV) (A : List HP) (h : RdO A a ops) (hc : ∀ o ∈ ops, o.vec.length ≤ o.c) (hn : ops.length ≤ 9223372036854775807) (hnn : n ≤ 1000000) :
    CallsS Tryz.prog 37 [.slice a ops.length c, .int .i64 n] A (fun v L' => ∃ (a' : Option Addr) (c' : Nat) (us : List OV), us.map OV.abs = fewV n (ops.map OV.abs) ∧ (∀ o ∈ us, o.vec.length = 0 ∨ ∃ b, o.a = some ⟨b, 0, none⟩) ∧ v = .slice a' us.length c' ∧ L' = slO 46 2 a' us.length c' (us.flatMap OV.cells) :: vecsH us :: A) := by
  refine CallsS.of_body Tryz.func37 rfl rfl rfl ?_
  refine Q.r ?_; (repeat (intro b1; refine Q.r ?_))
  refine swp_loop (σ := Nat × Option Addr × Nat × List OV) (fun s => [(1, .int .i64 n), (8, .slice a ops.length c), (9, .int .i64 ops.length), (5, .slice s.2.1 s.2.2.2.length s.2.2.1), (10, .int .i64 s.1)])
    (fun s => slO 46 2 s.2.1 s.2.2.2.length s.2.2.1 (s.2.2.2.flatMap OV.cells) :: vecsH s.2.2.2 :: A)
    (fun s => s.1 ≤ ops.length ∧ s.2.2.2.map OV.abs = fewV n ((ops.take s.1).map OV.abs) ∧ ∀ o ∈ s.2.2.2, o.vec.length = 0 ∨ ∃ b, o.a = some ⟨b, 0, none⟩) (fun s => ops.length - s.1) (0, none, 0, []) ⟨rfl, rfl, rfl, rfl, rfl, trivial⟩ ?_ ⟨by omega, by simp [fewV], by simp⟩ ?_
  · exact Ent.trans (Ent.trans bodV_nil slO_nil) (Ent.refl _)
  rintro ⟨k, a3, c3, us⟩ ⟨hk, hus, hua⟩
  dsimp only at hk hus hua ⊢
  have hul : us.length = min n k := by
    have := congrArg List.length hus
    simp [fewV] at this; omega
  by_cases hlt : k < ops.length
  · obtain ⟨o, ho⟩ := mem_get hlt
    have hmo : o ∈ ops := List.mem_of_getElem? ho
    obtain ⟨b, oo, hia, hr⟩ := RdS.elem (g := OV.cells) (fun _ => rfl) h.1 ho rfl
    rw [hia]
    repeat (first | (refine GQ.y ?_; refine Q.y ?_) | refine Q.go ?_ | (refine GQ.g ?_; refine Q.gq ?_) | (refine GQ.s ?_; refine Q.st ?_) | (refine GQ.a ?_; refine Q.al (fun b1 => ?_)))
    by_cases hkn : k < n
    · refine Q.r ?_; (repeat (intro b1; refine Q.r ?_))
      refine Q.dgo [true, false, false] [5, 7, 8] [] [0, 1, 2, 3, 4, 5, 6, 7, 8, 9] ?_
      refine Q.rd ?_; (repeat (intro b1; refine Q.rd ?_))
      refine D.e rfl rfl rfl ?_
      refine S.cr rfl (CutVec_spec o.a o.c 10 o.vec _ ((h.2 o hmo).sub) (hc o hmo) (by omega)) ?_
      rintro _ _ ⟨a', c', rfl, rfl⟩
      refine opsS_addr a' (fun ha' => ?_)
      refine Q.r ?_; (repeat (intro b1; refine Q.r ?_))
      refine Q.rd ?_; (repeat (intro b1; refine Q.rd ?_))
      refine D.e rfl rfl rfl ?_
      refine S.app rfl rfl (SrcS.sl RdC.row (by rfl) (by rfl)) (by rfl) (by omega) (by omega) (fun a4 c4 => ?_)
      refine Q.r ?_; (repeat (intro b1; refine Q.r ?_))
      refine Q.rd ?_; (repeat (intro b1; refine Q.rd ?_))
      refine Q.r ?_; (repeat (intro b1; refine Q.r ?_))
      refine ⟨(k + 1, a4, c4, us ++ [⟨o.id, a', c', o.vec.take 10⟩]), ⟨rfl, rfl, rfl, congrArg some (by simp), rfl, trivial⟩, ?_, ⟨by dsimp only; omega, ?_, ?_⟩, by dsimp only; omega⟩
      · dsimp only
        rw [len_snoc, flat_snoc]
        refine Ent.pick (Ent.trans ?_ (vecs_snoc (o := ⟨o.id, a', c', o.vec.take 10⟩) rfl))
        exact Go.SX.Ent.go
      · dsimp only
        rw [List.map_append, hus, fewV_all (l := (ops.take k).map OV.abs) (by simp; omega), fewV_all (l := (ops.take (k + 1)).map OV.abs) (by simp; omega), take_snoc ho, List.map_append, List.map_append]; rfl
      · intro u hu
        rcases List.mem_append.1 hu with hu | hu
        · exact hua u hu
        · obtain rfl := List.mem_singleton.1 hu
          exact ha'
    · refine Q.r ?_; (repeat (intro b1; refine Q.r ?_))
      refine ⟨(k + 1, a3, c3, us), ⟨rfl, rfl, rfl, rfl, rfl, trivial⟩, by exact Go.SX.Ent.go, ⟨by dsimp only; omega, ?_, hua⟩, by dsimp only; omega⟩
      dsimp only
      rw [hus]
      unfold fewV
      rw [← List.map_take, ← List.map_take, List.take_take, List.take_take, show min n k = min n (k + 1) by omega]
  · have hke : k = ops.length := by omega
    subst hke
    rw [List.take_length] at hus
    refine Q.r ?_; (repeat (intro b1; refine Q.r ?_))
    exact N.r1 (RV.tmp rfl RV.nil) (by exact Go.SX.Ent.go) ⟨a3, c3, us, hus, hua, rfl, rfl⟩
theorem Few_spec (n : Nat) (a : Option Addr) (c : Nat) (ops : List OV) (A : List HP) (h : RdO A a ops) (hc : ∀ o ∈ ops, o.vec.length ≤ o.c) (hn : ops.length ≤ 9223372036854775807) (hnn : n ≤ 1000000) :
    CallsS Tryz.prog 37 [.slice a ops.length c, .int .i64 n] A (fun v L' => ∃ (a' : Option Addr) (c' : Nat) (us : List OV), us.map OV.abs = fewV n (ops.map OV.abs) ∧ v = .slice a' us.length c' ∧ L' = slO 46 2 a' us.length c' (us.flatMap OV.cells) :: vecsH us :: A) :=
  (FewA_spec n a c ops A h hc hn hnn).mono fun v L' ⟨a', c', us, h1, _, h2, h3⟩ => ⟨a', c', us, h1, h2, h3⟩
end Go.Proofs.YtjidejcehmamkaaGreatDoor
namespace Go.Proofs.YtjidejcehmamkaaGreatDoor
open Go Go.SX
attribute [local irreducible] swp opsS thenS blockS retS CallsS St Ent YieldS anyS drawS
end Go.Proofs.YtjidejcehmamkaaGreatDoor
