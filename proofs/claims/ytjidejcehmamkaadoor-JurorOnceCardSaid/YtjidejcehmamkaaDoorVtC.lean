/- The vault: copyOf, New, Lock. No condition. -/
import Derived.Test.YtjidejcehmamkaaDoorVtB
set_option linter.unusedVariables false
set_option linter.unusedSimpArgs false
namespace Go.Proofs.YtjidejcehmamkaaDoor
open Go Go.SX
attribute [local irreducible] swp opsS thenS blockS retS CallsS St Ent YieldS anyS drawS
def vecsH (us : List OV) : HP := bodV 21 (us.map fun o => (o.a, o.c, o.vec.map I32))
theorem vecs_snoc {us : List OV} {o : OV} {m : Nat} {L : List HP} (hm : m = o.vec.length) : Ent (slO 21 1 o.a m o.c (o.vec.map I32) :: vecsH us :: L) (vecsH (us ++ [o]) :: L) := by
  unfold vecsH
  rw [List.map_append, List.map_cons, List.map_nil]
  exact bodV_snoc (by simp [hm])
theorem vecs_abs {L L0 : List HP} {M : Nat → Option Obj} [hp : PickM L M L0] : ∀ us : List OV, Ent (vecsH us :: L) (exH (fun M' => allH [pureH (leM M M' ∧ okR M' us), roM M']) :: L0) := by
  intro us
  induction us generalizing M L with
  | nil =>
    refine Ent.drop (hp.ent.trans ?_)
    refine Ent.trans ?_ (Ent.shut_ex M)
    refine Ent.trans ?_ Ent.shut_all
    exact Ent.shut_pure ⟨leM.refl M, fun o ho => by cases ho⟩
  | cons o us ih =>
    have h1 : Ent (vecsH (o :: us) :: L) (slO 21 1 o.a o.vec.length o.c (o.vec.map I32) :: vecsH us :: L) := by
      unfold vecsH
      exact bodV_out' (p := []) (by simp)
    refine h1.trans ?_
    have hp2 : PickM (vecsH us :: L) M (vecsH us :: L0) := inferInstance
    refine (Ent.absorb (h := hp2)).trans ?_
    refine Ent.ex fun M1 => Ent.open_all.trans (Ent.pure fun hs => ?_)
    refine Ent.trans (Ent.perm (.swap _ _ _)) ?_
    refine (ih (M := M1) (L := roM M1 :: L0) (hp := inferInstance)).trans ?_
    refine Ent.ex fun M2 => Ent.open_all.trans (Ent.pure fun hs2 => ?_)
    refine Ent.trans ?_ (Ent.shut_ex M2)
    refine Ent.trans ?_ Ent.shut_all
    refine Ent.shut_pure ⟨hs.1.trans hs2.1, fun u hu => ?_⟩
    rcases List.mem_cons.1 hu with rfl | hu
    · exact hs.2.mono hs2.1
    · exact hs2.2 u hu
theorem swp_absV (us : List OV) {n : Nat} {cd : Code} {Q : Post} {f : Env} {L L0 L1 : List HP} {M : Nat → Option Obj} [h : Pick (vecsH us) L L0] [h1 : PickM L0 M L1] (hk : ∀ M', leM M M' → okR M' us → swp Tryd.prog n cd Q f (roM M' :: L1)) : swp Tryd.prog n cd Q f L :=
  swp_ent (h.ent.trans (vecs_abs us)) (swp_ex fun M' => swp_all (swp_pure fun hh => hk M' hh.1 hh.2))
theorem chain_mono {M M' : Nat → Option Obj} (h : leM M M') {p : Nat} {vs : VL} {L : List HP} : Ent (chainH M p vs :: L) (chainH M' p vs :: L) :=
  Ent.ex fun x => Ent.open_all.trans (Ent.pure fun hx => by
    obtain ⟨⟨a, c⟩, ovs⟩ := x
    obtain ⟨rfl, h2⟩ := hx
    exact chain_shut fun o ho => (h2 o ho).mono h)
theorem chs_out {M : Nat → Option Obj} {p q : List CR} {x : CR} {L : List HP} : Ent (chsH M (p ++ x :: q) :: L) (chainH M x.2.1 x.2.2 :: chsH M (p ++ q) :: L) := by
  refine Ent.open_all.trans ?_
  rw [List.map_append, List.map_cons]
  refine (Ent.app (Ent.perm List.perm_middle)).trans ?_
  rw [List.cons_append, ← List.map_append]
  exact Ent.shut_all.cons
theorem chs_in {M : Nat → Option Obj} {p q : List CR} {x : CR} {L : List HP} : Ent (chainH M x.2.1 x.2.2 :: chsH M (p ++ q) :: L) (chsH M (p ++ x :: q) :: L) := by
  refine (Ent.cons Ent.open_all).trans ?_
  refine Ent.trans ?_ Ent.shut_all
  rw [List.map_append, List.map_append, List.map_cons]
  exact Ent.app (Ent.perm List.perm_middle.symm) (L := _ :: (_ ++ _))
theorem chs_mono {M M' : Nat → Option Obj} (h : leM M M') : ∀ {cs : List CR} {L : List HP}, Ent (chsH M cs :: L) (chsH M' cs :: L)
  | [], L => Ent.refl _
  | x :: cs, L => (chs_out (p := [])).trans ((Ent.cons (chs_mono h (cs := cs))).trans ((chain_mono h).trans (chs_in (p := []))))
theorem lk_none' {κ α : Type} [DecidableEq κ] {m : List (κ × α)} {x : κ} (h : lkL m x = none) : ∀ u ∈ m, u.1 ≠ x := fun u hu e => by
  unfold lkL at h
  rw [Option.map_eq_none_iff, List.find?_eq_none] at h
  exact h u hu (by simpa using e)
theorem lkL_its_none {is : List IV} {st : VS} {M : Nat → Option Obj} {cs : List CR} (h : VOK M st cs is) {t : Int} (hx : lkL (is.map fun i => (i.txn, i)) t = none) : keysOK (st.its ++ [(t, (0 : Int), ([] : VL))]) := by
  have hn := lk_none' hx
  unfold keysOK
  rw [List.map_append, List.nodup_append]
  refine ⟨h.k2, by simp, fun y hy z hz => ?_⟩
  simp at hz
  subst hz
  obtain ⟨u, hu, rfl⟩ := List.mem_map.1 hy
  rw [← h.its] at hu
  obtain ⟨i, hi, rfl⟩ := List.mem_map.1 hu
  exact fun e => hn (i.txn, i) (List.mem_map_of_mem (f := fun i : IV => (i.txn, i)) hi) e
theorem lk_its (is : List IV) (t : Int) : lkL (is.map IV.abs) t = (lkL (is.map fun i => (i.txn, i)) t).map (fun x => (x.after, x.ops.map OV.abs)) := by
  induction is with
  | nil => rfl
  | cons x is ih =>
    unfold lkL at ih ⊢
    simp only [List.map_cons, List.find?_cons]
    by_cases h : x.txn = t
    · simp [h]
    · simp only [h, decide_false]; exact ih
theorem lk_mem {is : List IV} {t : Int} {x : IV} (h : lkL (is.map fun i => (i.txn, i)) t = some x) : x ∈ is ∧ x.txn = t := by
  unfold lkL at h
  obtain ⟨p, hp, hx⟩ := Option.map_eq_some_iff.1 h
  have h1 := List.mem_of_find?_eq_some hp
  have h2 := List.find?_some hp
  obtain ⟨y, hy, rfl⟩ := List.mem_map.1 h1
  dsimp only at hx h2
  subst hx
  exact ⟨hy, by simpa using h2⟩
set_option maxHeartbeats 1000000 in
theorem copyOf_spec (i : IV) (A : List HP) (h : RdO A i.a i.ops) (hn : i.ops.length ≤ 1000000) (hv : ∀ o ∈ i.ops, o.vec.length ≤ 1000000) :
    CallsS Tryd.prog 33 [i.val] A (fun v L' => ∃ (a : Option Addr) (c : Nat) (us : List OV), us.map OV.abs = i.ops.map OV.abs ∧ v = IV.val ⟨i.txn, i.after, a, c, us⟩ ∧ L' = slO 73 2 a us.length c (us.flatMap OV.cells) :: vecsH us :: A) := by
  refine CallsS.of_body Tryd.func33 rfl rfl rfl ?_
  refine Q.r ?_; (repeat (intro b1; refine Q.r ?_))
  rename_i b2
  refine swp_loop (σ := Nat × Option Addr × Nat × List OV) (fun s => [(1, .pointer (some ⟨b2, 0, none⟩)), (2, .pointer (some ⟨b1, 0, none⟩)), (7, .slice i.a i.ops.length i.c), (8, .int .i64 i.ops.length), (3, .slice s.2.1 s.2.2.2.length s.2.2.1), (9, .int .i64 s.1)])
    (fun s => slO 73 2 s.2.1 s.2.2.2.length s.2.2.1 (s.2.2.2.flatMap OV.cells) :: vecsH s.2.2.2 :: pt b1 (cl [.int .u64 0, .int .u64 0, .slice none 0 0] 66) :: pt b2 (cl i.cells 66) :: A)
    (fun s => s.1 ≤ i.ops.length ∧ s.2.2.2.map OV.abs = (i.ops.take s.1).map OV.abs) (fun s => i.ops.length - s.1) (0, none, 0, []) ⟨rfl, rfl, rfl, rfl, rfl, rfl, trivial⟩ ?_ ⟨by omega, by simp⟩ ?_
  · exact Ent.trans (Ent.trans bodV_nil slO_nil) (Ent.refl _)
  rintro ⟨k, a3, c3, us⟩ ⟨hk, hus⟩
  dsimp only at hk hus ⊢
  have hul : us.length = k := by
    have := congrArg List.length hus
    simp at this; omega
  by_cases hlt : k < i.ops.length
  · obtain ⟨o, ho⟩ := mem_get hlt
    have hmo : o ∈ i.ops := List.mem_of_getElem? ho
    obtain ⟨b, oo, hia, hr⟩ := RdS.elem (g := OV.cells) (fun _ => rfl) h.1 ho rfl
    rw [hia]
    refine Q.r ?_; (repeat (intro b1; refine Q.r ?_))
    refine Q.dgo [true, false, false, false, false] [5, 7, 8] [] [0, 1, 2, 3, 4, 5, 6, 7, 8, 9] ?_
    refine Q.rd ?_; (repeat (intro b1; refine Q.rd ?_))
    refine D.e rfl rfl rfl ?_
    refine S.cr rfl (CloneI_spec o.a o.c o.vec _ ((h.2 o hmo).sub) (hv o hmo)) ?_
    rintro _ _ ⟨a', c', rfl, rfl⟩
    refine Q.r ?_; (repeat (intro b1; refine Q.r ?_))
    refine Q.rd ?_; (repeat (intro b1; refine Q.rd ?_))
    refine D.e rfl rfl rfl ?_
    refine S.app rfl rfl (SrcS.sl RdC.row (by rfl) (by rfl)) (by rfl) (by omega) (by omega) (fun a4 c4 => ?_)
    refine Q.r ?_; (repeat (intro b1; refine Q.r ?_))
    refine Q.rd ?_; (repeat (intro b1; refine Q.rd ?_))
    refine Q.r ?_; (repeat (intro b1; refine Q.r ?_))
    refine ⟨(k + 1, a4, c4, us ++ [⟨o.id, a', c', o.vec⟩]), ⟨rfl, rfl, rfl, rfl, congrArg some (by simp), rfl, trivial⟩, ?_, ⟨by dsimp only; omega, by dsimp only; rw [List.map_append, hus, take_snoc ho, List.map_append]; rfl⟩, by dsimp only; omega⟩
    dsimp only
    rw [len_snoc, flat_snoc]
    refine Ent.pick (Ent.trans ?_ (vecs_snoc (o := ⟨o.id, a', c', o.vec⟩) rfl))
    repeat (first | exact Ent.refl _ | exact Ent.nil | refine Ent.pick ?_ | refine Ent.nilS ?_ | refine Ent.nilM ?_ | refine Ent.drop ?_)
  · have hke : k = i.ops.length := by omega
    subst hke
    rw [List.take_length] at hus
    refine Q.r ?_; (repeat (intro b1; refine Q.r ?_))
    refine N.r1 (by apply RV.cellN; rfl; exact RdC.row; rfl; exact RV.nil) ?_ ⟨a3, c3, us, hus, rfl, rfl⟩
    repeat (first | exact Ent.refl _ | exact Ent.nil | refine Ent.pick ?_ | refine Ent.nilS ?_ | refine Ent.nilM ?_ | refine Ent.drop ?_)
theorem New_spec (dim : Int) (L : List HP) (h1 : 1 ≤ dim) (h2 : dim ≤ 8) : CallsS Tryd.prog 11 [.int .i64 dim] L (fun r L' => ∃ v, r = .tuple #[ptrV v, .int .i64 0] ∧ L' = vaultH v ⟨dim, [], [], 0⟩ :: L) := by
  refine CallsS.of_body Tryd.func11 rfl rfl rfl ?_
  refine Q.r ?_; (repeat (intro b1; refine Q.r ?_))
  refine S.mkm U64 ptrV (fun mc => ?_)
  refine S.mkm U64 IV.val (fun mi => ?_)
  refine Q.r ?_; (repeat (intro b1; refine Q.r ?_))
  refine N.r2 (RV.tmp rfl (RV.tmp rfl RV.nil)) (Ent.trans ?_ (vault_shut (v := b1) (mc := mc) (mi := mi) (M := fun _ => none) (st := ⟨dim, [], [], 0⟩) (cs := []) (is := []) ⟨rfl, rfl, by simp, by simp [keysOK], by simp [keysOK]⟩)) ⟨b1, rfl, rfl⟩
  show Ent (pt b1 _ :: mpO U64 IV.val mi [] :: mpO U64 ptrV mc [] :: L) (pt b1 _ :: mpO U64 ptrV mc [] :: mpO U64 IV.val mi [] :: _)
  refine Ent.cons (Ent.trans (Ent.perm (.swap _ _ _)) (Ent.cons (Ent.cons ?_)))
  exact Ent.trans (Ent.shut_all (L := [])) (Ent.cons (Ent.nilM (Ent.refl _)))
def lockE (st : VS) (txn after : Int) (ops : VL) : Int :=
  if 1099511627776 < after then 1 else if checkV st.dim ops ≠ 0 then checkV st.dim ops else if (lkL st.its txn).isSome then 7 else if ops.any fun o => st.its.any fun i => holdsV i.2.2 o.1 then 11 else 0
def lockS (st : VS) (txn after : Int) (ops : VL) : VS := if lockE st txn after ops = 0 then { st with its := st.its ++ [(txn, after, ops)] } else st
set_option maxHeartbeats 2000000 in
theorem Lock_spec (v : Nat) (st : VS) (i : IV) (L : List HP) (hl : opsLe st) (h : RdO L i.a i.ops) (hn : i.ops.length ≤ 1000000) (hv : ∀ o ∈ i.ops, o.vec.length ≤ 1000000) (hd : -9223372036854775808 ≤ st.dim ∧ st.dim ≤ 9223372036854775807) :
    CallsS Tryd.prog 18 [ptrV v, i.val] (vaultH v st :: L) (fun r L' => r = .int .i64 (lockE st i.txn i.after (i.ops.map OV.abs)) ∧ L' = vaultH v (lockS st i.txn i.after (i.ops.map OV.abs)) :: L) := by
  unfold lockS lockE
  refine calls_vault fun mc mi M cs is hok => ?_
  refine CallsS.of_body Tryd.func18 rfl rfl rfl ?_
  refine Q.r ?_; (repeat (intro b1; refine Q.r ?_))
  refine Q.dgo [true, true, false, false, false, false] [6] [] [0, 1, 2, 3, 4, 5, 6, 7] ?_
  refine Q.rd ?_; (repeat (intro b1; refine Q.rd ?_))
  refine D.e rfl rfl rfl ?_
  refine S.cr rfl (Check_spec st.dim i.a i.c i.ops _ h.sub hn hv hd) ?_
  rintro _ _ ⟨rfl, rfl⟩
  by_cases h1 : 1099511627776 < i.after
  · rw [if_pos h1]
    refine Q.r ?_; (repeat (intro b1; refine Q.r ?_))
    refine Q.rd ?_; (repeat (intro b1; refine Q.rd ?_))
    refine Q.r ?_; (repeat (intro b1; refine Q.r ?_))
    refine N.r1 (RV.tmp rfl RV.nil) ?_ ⟨rfl, rfl⟩
    rw [if_neg (by decide)]
    refine Ent.trans ?_ (vault_shut (mc := mc) (mi := mi) hok)
    repeat (first | exact Ent.refl _ | exact Ent.nil | refine Ent.pick ?_ | refine Ent.nilS ?_ | refine Ent.nilM ?_ | refine Ent.drop ?_)
  rw [if_neg h1]
  generalize checkV st.dim (i.ops.map OV.abs) = ce
  by_cases h2 : ce ≠ 0
  · rw [if_pos h2]
    refine Q.r ?_; (repeat (intro b1; refine Q.r ?_))
    refine Q.rd ?_; (repeat (intro b1; refine Q.rd ?_))
    refine Q.r ?_; (repeat (intro b1; refine Q.r ?_))
    refine N.r1 (RV.tmp rfl RV.nil) ?_ ⟨rfl, rfl⟩
    rw [if_neg h2]
    refine Ent.trans ?_ (vault_shut (mc := mc) (mi := mi) hok)
    repeat (first | exact Ent.refl _ | exact Ent.nil | refine Ent.pick ?_ | refine Ent.nilS ?_ | refine Ent.nilM ?_ | refine Ent.drop ?_)
  rw [if_neg h2]
  have h2' : ce = 0 := by omega
  subst h2'
  refine Q.r ?_; (repeat (intro b1; refine Q.r ?_))
  refine Q.rd ?_; (repeat (intro b1; refine Q.rd ?_))
  refine Q.r ?_; (repeat (intro b1; refine Q.r ?_))
  refine Q.dgo [true, true, false, true, false, false] [10, 11] [] [0, 1, 2, 3, 4, 5, 6, 7, 8, 9, 10, 11, 12] ?_
  refine Q.rd ?_; (repeat (intro b1; refine Q.rd ?_))
  refine D.y rfl rfl rfl (by kernel_rfl) (Y.lk true rfl rfl (fun w => Tryd.zeroValue66 w)) ?_
  have hlk := lk_its is i.txn
  rw [hok.its] at hlk
  cases hx : lkL (is.map fun i => (i.txn, i)) i.txn with
  | some x =>
    rw [hx] at hlk
    rw [hlk]
    dsimp only
    refine Q.rd ?_; (repeat (intro b1; refine Q.rd ?_))
    refine Q.r ?_; (repeat (intro b1; refine Q.r ?_))
    refine N.r1 (RV.tmp rfl RV.nil) ?_ ⟨rfl, rfl⟩
    simp only [Option.map_some, Option.isSome_some, if_true]
    rw [if_neg (by decide)]
    refine Ent.trans ?_ (vault_shut (mc := mc) (mi := mi) hok)
    repeat (first | exact Ent.refl _ | exact Ent.nil | refine Ent.pick ?_ | refine Ent.nilS ?_ | refine Ent.nilM ?_ | refine Ent.drop ?_)
  | none =>
    rw [hx] at hlk
    rw [hlk]
    dsimp only
    refine Q.rd ?_; (repeat (intro b1; refine Q.rd ?_))
    refine Q.r ?_; (repeat (intro b1; refine Q.r ?_))
    simp only [Option.map_none, Option.isSome_none, Bool.false_eq_true, if_false] at hlk ⊢
    rename_i bx
    have hev : ((i.ops.map OV.abs).any fun o => st.its.any fun i => holdsV i.2.2 o.1) = i.ops.any fun o => st.its.any fun i => holdsV i.2.2 o.id := by rw [List.any_map]; rfl
    rw [hev]
    refine swp_cutB (σ := Unit) (fun _ => [(0, ptrV v), (3, .pointer (some ⟨bx, 0, none⟩))]) (fun _ => vaultH v st :: pt bx (cl i.cells 66) :: L) (fun _ => (i.ops.any fun o => st.its.any fun i => holdsV i.2.2 o.id) = false) ?_ ?_
    · refine swp_loop (σ := Nat) (fun k => [(0, ptrV v), (3, .pointer (some ⟨bx, 0, none⟩)), (39, .slice i.a i.ops.length i.c), (40, .int .i64 i.ops.length), (41, .int .i64 k)]) (fun _ => vaultH v st :: pt bx (cl i.cells 66) :: L)
        (fun k => k ≤ i.ops.length ∧ (i.ops.take k).any (fun o => st.its.any fun i => holdsV i.2.2 o.id) = false) (fun k => i.ops.length - k) 0 ⟨rfl, rfl, rfl, rfl, rfl, trivial⟩ ?_ ⟨by omega, by simp⟩ ?_
      · refine Ent.trans ?_ (Ent.trans (vault_shut (mc := mc) (mi := mi) (L := pt bx (cl i.cells 66) :: L) hok) (Ent.refl _))
        repeat (first | exact Ent.refl _ | exact Ent.nil | refine Ent.pick ?_ | refine Ent.nilS ?_ | refine Ent.nilM ?_ | refine Ent.drop ?_)
      rintro k ⟨hk, hany⟩
      by_cases hlt : k < i.ops.length
      · obtain ⟨o, ho⟩ := mem_get hlt
        have hmo : o ∈ i.ops := List.mem_of_getElem? ho
        obtain ⟨b, oo, hia, hr⟩ := RdS.elem (g := OV.cells) (fun _ => rfl) h.1 ho rfl
        rw [hia]
        refine Q.r ?_; (repeat (intro b1; refine Q.r ?_))
        refine S.cv v rfl (holder_spec v st o.id _ hl) ?_
        rintro _ _ ⟨⟨x, y, a, m, c, rfl⟩, rfl⟩
        cases hh : st.its.any fun i => holdsV i.2.2 o.id with
        | true =>
          rw [show (i.ops.any fun o => st.its.any fun i => holdsV i.2.2 o.id) = true from List.any_eq_true.2 ⟨o, hmo, hh⟩]
          simp only [if_true]
          rw [if_neg (show ¬ ((11 : Int) = 0) by decide)]
          refine Q.r ?_; (repeat (intro b1; refine Q.r ?_))
          exact N.r1 (RV.tmp rfl RV.nil) (by repeat (first | exact Ent.refl _ | exact Ent.nil | refine Ent.pick ?_ | refine Ent.nilS ?_ | refine Ent.nilM ?_ | refine Ent.drop ?_)) ⟨rfl, rfl⟩
        | false =>
          refine Q.r ?_; (repeat (intro b1; refine Q.r ?_))
          exact ⟨k + 1, ⟨rfl, rfl, rfl, rfl, rfl, trivial⟩, by repeat (first | exact Ent.refl _ | exact Ent.nil | refine Ent.pick ?_ | refine Ent.nilS ?_ | refine Ent.nilM ?_ | refine Ent.drop ?_), ⟨by omega, by rw [take_snoc ho, List.any_append, hany, List.any_cons, hh]; rfl⟩, by omega⟩
      · have hke : k = i.ops.length := by omega
        subst hke
        rw [List.take_length] at hany
        refine Q.r ?_; (repeat (intro b1; refine Q.r ?_))
        exact ⟨(), ⟨rfl, rfl, trivial⟩, Ent.refl _, hany⟩
    intro _ hany
    rw [hany]
    simp only [Bool.false_eq_true, if_false, if_true]
    clear hx hok mc mi M cs is
    refine swp_vault v (fun mc mi M cs is hok => ?_)
    have hlk2 := lk_its is i.txn
    rw [hok.its, hlk] at hlk2
    have hx : lkL (is.map fun i => (i.txn, i)) i.txn = none := by
      cases hx : lkL (is.map fun i => (i.txn, i)) i.txn with
      | none => rfl
      | some x => rw [hx] at hlk2; cases hlk2
    refine Q.r ?_; (repeat (intro b1; refine Q.r ?_))
    refine Q.dgo [true, false, false, false, false, true] [7, 8] [] [0, 1, 2, 3, 4, 5, 6, 7, 8] ?_
    refine Q.rd ?_; (repeat (intro b1; refine Q.rd ?_))
    refine D.e rfl rfl rfl ?_
    refine S.cr rfl (copyOf_spec i _ h.sub hn hv) ?_
    rintro _ _ ⟨a', c', us, hus, rfl, rfl⟩
    refine Q.r ?_; (repeat (intro b1; refine Q.r ?_))
    refine D.e rfl rfl rfl ?_
    refine S.mu rfl rfl rfl ?_
    refine Q.r ?_; (repeat (intro b1; refine Q.r ?_))
    refine Q.rd ?_; (repeat (intro b1; refine Q.rd ?_))
    refine N.tn ?_
    rw [putL_none (lk_none' hx)]
    refine swp_abs a' (fun M1 hl1 hs1 => ?_)
    refine swp_absV us (fun M2 hl2 hs2 => ?_)
    refine Q.r ?_; (repeat (intro b1; refine Q.r ?_))
    obtain ⟨nw, hnw⟩ : ∃ nw : IV, nw = ⟨i.txn, i.after, a', c', us⟩ := ⟨_, rfl⟩
    have hok2 : VOK M2 { st with its := st.its ++ [(i.txn, i.after, i.ops.map OV.abs)] } cs (is ++ [nw]) := by
      refine ⟨hok.ch, by rw [List.map_append, hok.its, hnw, ← hus]; rfl, fun u hu => ?_, hok.k1, by have := lkL_its_none hok hx; unfold keysOK at *; simpa using this⟩
      rcases List.mem_append.1 hu with hu | hu
      · exact (hok.ok u hu).mono (hl1.trans hl2)
      · obtain rfl := List.mem_singleton.1 hu
        rw [hnw]; exact ⟨hs1.mono hl2, hs2⟩
    refine N.r1 (RV.tmp rfl RV.nil) (Ent.trans ?_ (vault_shut (mc := mc) (mi := mi) hok2)) ⟨rfl, rfl⟩
    have e : vI mi (is ++ [nw]) = mpO U64 IV.val mi (is.map (fun i => (i.txn, i)) ++ [(i.txn, nw)]) := by unfold vI; rw [List.map_append, hnw]; rfl
    rw [e, ← hnw]
    refine Ent.pick (Ent.pick (Ent.pick ?_))
    refine Ent.trans ?_ (chs_mono (hl1.trans hl2))
    repeat (first | exact Ent.refl _ | exact Ent.nil | refine Ent.pick ?_ | refine Ent.nilS ?_ | refine Ent.nilM ?_ | refine Ent.drop ?_)
end Go.Proofs.YtjidejcehmamkaaDoor
