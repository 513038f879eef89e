/- The vault's law: do. No condition. -/
import Derived.Test.YtieejgbjgcbbjaaGreatVtT
set_option linter.unusedVariables false
set_option linter.unusedSimpArgs false
namespace Go.Proofs.YtieejgbjgcbbjaaGreat
open Go Go.SX
attribute [local irreducible] swp opsS thenS blockS retS CallsS St Ent YieldS anyS drawS
structure DV where
  d : Int
  txn : Int
  after : Int
  a : Option Addr
  c : Nat
  ops : List OV
  stamp : Int
  ask : Int
  id : Int
  ia : Option Addr
  ic : Nat
  ids : List Int
abbrev DV.cells (o : DV) : List Value := [.int .u8 o.d, .int .u64 o.txn, .int .u64 o.after, .slice o.a o.ops.length o.c, .int .u64 o.stamp, .int .u64 o.ask, .int .u64 o.id, .slice o.ia o.ids.length o.ic]
abbrev DV.val (o : DV) : Value := .agg #[.int .u8 o.d, .int .u64 o.txn, .int .u64 o.after, .slice o.a o.ops.length o.c, .int .u64 o.stamp, .int .u64 o.ask, .int .u64 o.id, .slice o.ia o.ids.length o.ic]
def doS (st : VS) (o : DV) : VS :=
  if o.d.tmod 9 = 4 then { st with its := delL st.its o.txn }
  else if o.d.tmod 9 = 5 ∨ o.d.tmod 9 = 6 ∨ o.d.tmod 9 = 7 then applyS st o.txn o.stamp
  else if o.d.tmod 9 = 8 then sweepS st o.stamp
  else lockS st o.txn o.after (fewV 18 (o.ops.map OV.abs))
theorem vecs_rd {us : List OV} {o : OV} {L L0 : List HP} [hp : Pick (vecsH us) L L0] (ho : o ∈ us) (ha : ∀ o ∈ us, o.vec.length = 0 ∨ ∃ b, o.a = some ⟨b, 0, none⟩) : RdS L o.a o.vec.length 1 (o.vec.map I32) := by
  have hp' : Pick (bodV 21 (us.map fun o => (o.a, o.c, o.vec.map I32))) L L0 := hp
  have := bodV_rd' (t := 21) (o.a, o.c, o.vec.map I32) (L := L) (L0 := L0) (xs := us.map fun o => (o.a, o.c, o.vec.map I32)) (List.mem_map_of_mem (f := fun o : OV => (o.a, o.c, o.vec.map I32)) ho) (by simpa using ha o ho)
  simpa using this
theorem opsS_absVc (us : List OV) {n : Nat} {ops rest : List Oper} {Q : Post} {f : Env} {L L0 L1 : List HP} {M : Nat → Option Obj} [h : Pick (vecsH us) L L0] [h1 : PickM L0 M L1] (hk : ∀ M', leM M M' → okR M' us → (∀ o ∈ us, o.vec.length ≤ o.c) → opsS Tryz.prog n ops rest Q f (roM M' :: L1)) : opsS Tryz.prog n ops rest Q f L :=
  opsS_ent (h.ent.trans (vecs_abs2 us)) (opsS_ex fun M' => opsS_all (opsS_pure fun hh => hk M' hh.1 hh.2.1 hh.2.2))
abbrev bodO (o : OV) : Option Addr × Nat × List Value := (o.a, o.c, o.vec.map I32)
set_option maxHeartbeats 4000000 in
theorem Do_spec (v p : Nat) (st : VS) (n : Nat) (o : DV) (M : Nat → Option Obj) (A : List HP) (hw : WF st n) (hn : n ≤ 10000) (h : SlM M o.a o.ops.length 2 (o.ops.flatMap OV.cells) ∧ okR M o.ops) (hc : ∀ u ∈ o.ops, u.vec.length ≤ u.c) (hl : o.ops.length ≤ 9223372036854775807) (hs0 : 0 ≤ o.stamp) :
    CallsS Tryz.prog 9 [ptrV v, ptrV p, o.val] (vaultH v st :: refH p st :: roM M :: A) (fun r L' => r = .bool true ∧ ∃ M', leM M M' ∧ L' = vaultH v (doS st o) :: refH p (doS st o) :: roM M' :: A) := by
  refine CallsS.of_body Tryz.func9 rfl rfl rfl ?_
  repeat (first | (refine GQ.y ?_; refine Q.y ?_) | refine Q.go ?_ | (refine GQ.g ?_; refine Q.gq ?_) | (refine GQ.s ?_; refine Q.st ?_) | (refine GQ.g ?_; refine Q.gd ?_) | refine Q.ct rfl ?_ | refine Q.cf rfl ?_ | (refine GQ.a ?_; refine Q.al (fun b1 => ?_)))
  refine S.cr rfl (Few_spec 18 o.a o.c o.ops _ ⟨h.1.rd, fun u hu => (h.2 u hu).rd⟩ hc hl (by omega)) ?_
  rintro _ _ ⟨a1, c1, us, hus, rfl, rfl⟩
  have hul : us.length ≤ 18 := by
    have := congrArg List.length hus
    simp [fewV] at this; omega
  have huv : ∀ o ∈ us, o.vec.length ≤ 10 := fun u hu => by
    have : u.abs ∈ fewV 18 (o.ops.map OV.abs) := by rw [← hus]; exact List.mem_map_of_mem hu
    unfold fewV at this
    obtain ⟨x, hx, e⟩ := List.mem_map.1 this
    have e2 : u.vec = x.2.take 10 := (congrArg Prod.snd e).symm
    rw [e2, List.length_take]; omega
  refine opsS_cap a1 fun hc1 => opsS_abs a1 (fun M1 hl1 hs1 => ?_)
  refine opsS_absVc us (fun M2 hl2 hs2 hsc => ?_)
  repeat (first | (refine GQ.y ?_; refine Q.y ?_) | refine Q.go ?_ | (refine GQ.g ?_; refine Q.gq ?_) | (refine GQ.s ?_; refine Q.st ?_) | (refine GQ.g ?_; refine Q.gd ?_) | refine Q.ct rfl ?_ | refine Q.cf rfl ?_ | (refine GQ.a ?_; refine Q.al (fun b1 => ?_)))
  refine S.y (Y.rem rfl rfl (by decide)) ?_
  unfold doS
  generalize o.d.tmod 9 = r
  by_cases h4 : r = 4
  · rw [if_pos h4]
    subst h4
    repeat (first | (refine GQ.y ?_; refine Q.y ?_) | refine Q.go ?_ | (refine GQ.g ?_; refine Q.gq ?_) | (refine GQ.s ?_; refine Q.st ?_) | (refine GQ.g ?_; refine Q.gd ?_) | refine Q.ct rfl ?_ | refine Q.cf rfl ?_ | (refine GQ.a ?_; refine Q.al (fun b1 => ?_)))
    refine Q.dgo [false, true, false, false] [4, 9] [] [0, 1, 2, 3, 5, 6, 7, 8, 4, 9, 10, 11] ?_
    repeat (first | refine D.endA ?_ | refine Q.dy rfl rfl rfl ?_ | refine Q.dp rfl rfl rfl ?_ | refine D.end_ ?_ | refine Q.endH ?_ | (refine D.e rfl rfl rfl ?_; (first | refine S.gskip1 rfl ?_ | refine S.gskip rfl ?_ | refine S.y (Y.gskipU rfl) ?_); refine opsS_nil ?_; refine N.tn ?_) | refine Q.dT rfl rfl rfl ?_ | refine Q.dF rfl rfl rfl ?_ | (refine D.e rfl rfl rfl ?_; (first | (refine GQ.a ?_; refine Q.al (fun b1 => ?_)) | (refine GQ.s ?_; refine Q.st ?_)); refine opsS_nil ?_; refine N.tn ?_))
    refine D.e rfl rfl rfl ?_
    refine S.cv v rfl (Free_spec v st o.txn _) ?_
    rintro _ _ ⟨rfl, rfl⟩
    repeat (first | (refine GQ.y ?_; refine Q.y ?_) | refine Q.go ?_ | (refine GQ.g ?_; refine Q.gq ?_) | (refine GQ.s ?_; refine Q.st ?_) | (refine GQ.g ?_; refine Q.gd ?_) | refine Q.ct rfl ?_ | refine Q.cf rfl ?_ | (refine GQ.a ?_; refine Q.al (fun b1 => ?_)))
    repeat (first | refine D.endA ?_ | refine Q.dy rfl rfl rfl ?_ | refine Q.dp rfl rfl rfl ?_ | refine D.end_ ?_ | refine Q.endH ?_ | (refine D.e rfl rfl rfl ?_; (first | refine S.gskip1 rfl ?_ | refine S.gskip rfl ?_ | refine S.y (Y.gskipU rfl) ?_); refine opsS_nil ?_; refine N.tn ?_) | refine Q.dT rfl rfl rfl ?_ | refine Q.dF rfl rfl rfl ?_ | (refine D.e rfl rfl rfl ?_; (first | (refine GQ.a ?_; refine Q.al (fun b1 => ?_)) | (refine GQ.s ?_; refine Q.st ?_)); refine opsS_nil ?_; refine N.tn ?_))
    refine D.e rfl rfl rfl ?_
    refine S.cf p rfl (RFree_spec p st o.txn _ (by have := hw.il; omega)) ?_
    rintro _ _ ⟨rfl, rfl⟩
    repeat (first | (refine GQ.y ?_; refine Q.y ?_) | refine Q.go ?_ | (refine GQ.g ?_; refine Q.gq ?_) | (refine GQ.s ?_; refine Q.st ?_) | (refine GQ.g ?_; refine Q.gd ?_) | refine Q.ct rfl ?_ | refine Q.cf rfl ?_ | (refine GQ.a ?_; refine Q.al (fun b1 => ?_)))
    repeat (first | refine D.endA ?_ | refine Q.dy rfl rfl rfl ?_ | refine Q.dp rfl rfl rfl ?_ | refine D.end_ ?_ | refine Q.endH ?_ | (refine D.e rfl rfl rfl ?_; (first | refine S.gskip1 rfl ?_ | refine S.gskip rfl ?_ | refine S.y (Y.gskipU rfl) ?_); refine opsS_nil ?_; refine N.tn ?_) | refine Q.dT rfl rfl rfl ?_ | refine Q.dF rfl rfl rfl ?_ | (refine D.e rfl rfl rfl ?_; (first | (refine GQ.a ?_; refine Q.al (fun b1 => ?_)) | (refine GQ.s ?_; refine Q.st ?_)); refine opsS_nil ?_; refine N.tn ?_))
    repeat (first | (refine GQ.y ?_; refine Q.y ?_) | refine Q.go ?_ | (refine GQ.g ?_; refine Q.gq ?_) | (refine GQ.s ?_; refine Q.st ?_) | (refine GQ.g ?_; refine Q.gd ?_) | refine Q.ct rfl ?_ | refine Q.cf rfl ?_ | (refine GQ.a ?_; refine Q.al (fun b1 => ?_)))
    exact N.r1 (RV.tmp rfl RV.nil) (by repeat (first | exact Ent.refl _ | exact Ent.nil | refine Ent.pick ?_ | refine Ent.nilS ?_ | refine Ent.nilM ?_ | refine Ent.drop ?_)) ⟨by simp, M2, hl1.trans hl2, rfl⟩
  rw [if_neg h4]
  by_cases h5 : r = 5 ∨ r = 6 ∨ r = 7
  · rw [if_pos h5]
    clear h4
    rcases h5 with rfl | rfl | rfl
    all_goals
      repeat (first | (refine GQ.y ?_; refine Q.y ?_) | refine Q.go ?_ | (refine GQ.g ?_; refine Q.gq ?_) | (refine GQ.s ?_; refine Q.st ?_) | (refine GQ.g ?_; refine Q.gd ?_) | refine Q.ct rfl ?_ | refine Q.cf rfl ?_ | (refine GQ.a ?_; refine Q.al (fun b1 => ?_)))
      refine Q.dgo [false, true, false, false] [6, 13] [] [0, 1, 2, 3, 4, 5, 7, 8, 9, 10, 11, 12, 6, 13, 14, 15] ?_
      repeat (first | refine D.endA ?_ | refine Q.dy rfl rfl rfl ?_ | refine Q.dp rfl rfl rfl ?_ | refine D.end_ ?_ | refine Q.endH ?_ | (refine D.e rfl rfl rfl ?_; (first | refine S.gskip1 rfl ?_ | refine S.gskip rfl ?_ | refine S.y (Y.gskipU rfl) ?_); refine opsS_nil ?_; refine N.tn ?_) | refine Q.dT rfl rfl rfl ?_ | refine Q.dF rfl rfl rfl ?_ | (refine D.e rfl rfl rfl ?_; (first | (refine GQ.a ?_; refine Q.al (fun b1 => ?_)) | (refine GQ.s ?_; refine Q.st ?_)); refine opsS_nil ?_; refine N.tn ?_))
      refine D.e rfl rfl rfl ?_
      refine S.cv v rfl (Apply_spec v st n o.txn o.stamp _ hw hn hs0) ?_
      rintro _ _ ⟨rfl, rfl⟩
      repeat (first | (refine GQ.y ?_; refine Q.y ?_) | refine Q.go ?_ | (refine GQ.g ?_; refine Q.gq ?_) | (refine GQ.s ?_; refine Q.st ?_) | (refine GQ.g ?_; refine Q.gd ?_) | refine Q.ct rfl ?_ | refine Q.cf rfl ?_ | (refine GQ.a ?_; refine Q.al (fun b1 => ?_)))
      repeat (first | refine D.endA ?_ | refine Q.dy rfl rfl rfl ?_ | refine Q.dp rfl rfl rfl ?_ | refine D.end_ ?_ | refine Q.endH ?_ | (refine D.e rfl rfl rfl ?_; (first | refine S.gskip1 rfl ?_ | refine S.gskip rfl ?_ | refine S.y (Y.gskipU rfl) ?_); refine opsS_nil ?_; refine N.tn ?_) | refine Q.dT rfl rfl rfl ?_ | refine Q.dF rfl rfl rfl ?_ | (refine D.e rfl rfl rfl ?_; (first | (refine GQ.a ?_; refine Q.al (fun b1 => ?_)) | (refine GQ.s ?_; refine Q.st ?_)); refine opsS_nil ?_; refine N.tn ?_))
      refine D.e rfl rfl rfl ?_
      refine S.cf p rfl (RApply_spec p st n o.txn o.stamp _ hw hn hs0) ?_
      rintro _ _ ⟨rfl, rfl⟩
      repeat (first | (refine GQ.y ?_; refine Q.y ?_) | refine Q.go ?_ | (refine GQ.g ?_; refine Q.gq ?_) | (refine GQ.s ?_; refine Q.st ?_) | (refine GQ.g ?_; refine Q.gd ?_) | refine Q.ct rfl ?_ | refine Q.cf rfl ?_ | (refine GQ.a ?_; refine Q.al (fun b1 => ?_)))
      repeat (first | refine D.endA ?_ | refine Q.dy rfl rfl rfl ?_ | refine Q.dp rfl rfl rfl ?_ | refine D.end_ ?_ | refine Q.endH ?_ | (refine D.e rfl rfl rfl ?_; (first | refine S.gskip1 rfl ?_ | refine S.gskip rfl ?_ | refine S.y (Y.gskipU rfl) ?_); refine opsS_nil ?_; refine N.tn ?_) | refine Q.dT rfl rfl rfl ?_ | refine Q.dF rfl rfl rfl ?_ | (refine D.e rfl rfl rfl ?_; (first | (refine GQ.a ?_; refine Q.al (fun b1 => ?_)) | (refine GQ.s ?_; refine Q.st ?_)); refine opsS_nil ?_; refine N.tn ?_))
      repeat (first | (refine GQ.y ?_; refine Q.y ?_) | refine Q.go ?_ | (refine GQ.g ?_; refine Q.gq ?_) | (refine GQ.s ?_; refine Q.st ?_) | (refine GQ.g ?_; refine Q.gd ?_) | refine Q.ct rfl ?_ | refine Q.cf rfl ?_ | (refine GQ.a ?_; refine Q.al (fun b1 => ?_)))
      exact N.r1 (RV.tmp rfl RV.nil) (by repeat (first | exact Ent.refl _ | exact Ent.nil | refine Ent.pick ?_ | refine Ent.nilS ?_ | refine Ent.nilM ?_ | refine Ent.drop ?_)) ⟨by simp, M2, hl1.trans hl2, rfl⟩
  rw [if_neg h5]
  by_cases h8 : r = 8
  · rw [if_pos h8]
    subst h8
    clear h4 h5
    repeat (first | (refine GQ.y ?_; refine Q.y ?_) | refine Q.go ?_ | (refine GQ.g ?_; refine Q.gq ?_) | (refine GQ.s ?_; refine Q.st ?_) | (refine GQ.g ?_; refine Q.gd ?_) | refine Q.ct rfl ?_ | refine Q.cf rfl ?_ | (refine GQ.a ?_; refine Q.al (fun b1 => ?_)))
    refine Q.dgo [false, true, false, false] [3, 7] [] [0, 1, 2, 4, 5, 6, 3, 7, 8, 9] ?_
    repeat (first | refine D.endA ?_ | refine Q.dy rfl rfl rfl ?_ | refine Q.dp rfl rfl rfl ?_ | refine D.end_ ?_ | refine Q.endH ?_ | (refine D.e rfl rfl rfl ?_; (first | refine S.gskip1 rfl ?_ | refine S.gskip rfl ?_ | refine S.y (Y.gskipU rfl) ?_); refine opsS_nil ?_; refine N.tn ?_) | refine Q.dT rfl rfl rfl ?_ | refine Q.dF rfl rfl rfl ?_ | (refine D.e rfl rfl rfl ?_; (first | (refine GQ.a ?_; refine Q.al (fun b1 => ?_)) | (refine GQ.s ?_; refine Q.st ?_)); refine opsS_nil ?_; refine N.tn ?_))
    refine D.e rfl rfl rfl ?_
    refine S.cv v rfl (Sweep_spec v st n o.stamp _ hw hn) ?_
    rintro _ _ ⟨a3, c3, rfl, hgb, rfl⟩
    repeat (first | (refine GQ.y ?_; refine Q.y ?_) | refine Q.go ?_ | (refine GQ.g ?_; refine Q.gq ?_) | (refine GQ.s ?_; refine Q.st ?_) | (refine GQ.g ?_; refine Q.gd ?_) | refine Q.ct rfl ?_ | refine Q.cf rfl ?_ | (refine GQ.a ?_; refine Q.al (fun b1 => ?_)))
    repeat (first | refine D.endA ?_ | refine Q.dy rfl rfl rfl ?_ | refine Q.dp rfl rfl rfl ?_ | refine D.end_ ?_ | refine Q.endH ?_ | (refine D.e rfl rfl rfl ?_; (first | refine S.gskip1 rfl ?_ | refine S.gskip rfl ?_ | refine S.y (Y.gskipU rfl) ?_); refine opsS_nil ?_; refine N.tn ?_) | refine Q.dT rfl rfl rfl ?_ | refine Q.dF rfl rfl rfl ?_ | (refine D.e rfl rfl rfl ?_; (first | (refine GQ.a ?_; refine Q.al (fun b1 => ?_)) | (refine GQ.s ?_; refine Q.st ?_)); refine opsS_nil ?_; refine N.tn ?_))
    refine D.e rfl rfl rfl ?_
    refine S.cf p rfl (RSweep_spec p st n o.stamp _ hw hn) ?_
    rintro _ _ ⟨a4, c4, rfl, rfl⟩
    obtain ⟨g, hg⟩ : ∃ g, g = sweepG st o.stamp := ⟨_, rfl⟩
    rw [← hg] at hgb ⊢
    clear hg
    refine opsS_addr a3 (fun ha3 => ?_)
    refine opsS_addr a4 (fun ha4 => ?_)
    repeat (first | (refine GQ.y ?_; refine Q.y ?_) | refine Q.go ?_ | (refine GQ.g ?_; refine Q.gq ?_) | (refine GQ.s ?_; refine Q.st ?_) | (refine GQ.g ?_; refine Q.gd ?_) | refine Q.ct rfl ?_ | refine Q.cf rfl ?_ | (refine GQ.a ?_; refine Q.al (fun b1 => ?_)))
    repeat (first | refine D.endA ?_ | refine Q.dy rfl rfl rfl ?_ | refine Q.dp rfl rfl rfl ?_ | refine D.end_ ?_ | refine Q.endH ?_ | (refine D.e rfl rfl rfl ?_; (first | refine S.gskip1 rfl ?_ | refine S.gskip rfl ?_ | refine S.y (Y.gskipU rfl) ?_); refine opsS_nil ?_; refine N.tn ?_) | refine Q.dT rfl rfl rfl ?_ | refine Q.dF rfl rfl rfl ?_ | (refine D.e rfl rfl rfl ?_; (first | (refine GQ.a ?_; refine Q.al (fun b1 => ?_)) | (refine GQ.s ?_; refine Q.st ?_)); refine opsS_nil ?_; refine N.tn ?_))
    repeat (first | (refine GQ.y ?_; refine Q.y ?_) | refine Q.go ?_ | (refine GQ.g ?_; refine Q.gq ?_) | (refine GQ.s ?_; refine Q.st ?_) | (refine GQ.g ?_; refine Q.gd ?_) | refine Q.ct rfl ?_ | refine Q.cf rfl ?_ | (refine GQ.a ?_; refine Q.al (fun b1 => ?_)))
    refine swp_loop (σ := Nat) (fun k => [(7, .slice a3 (List.length g) c3), (8, .slice a4 (List.length g) c4), (72, .int .i64 (List.length g)), (73, .int .i64 k)]) (fun _ => slO 89 2 a4 g.length c4 (g.flatMap gcells) :: slO 88 2 a3 g.length c3 (g.flatMap gcells) :: vaultH v (sweepS st o.stamp) :: refH p (sweepS st o.stamp) :: roM M2 :: A)
      (fun k => k ≤ g.length) (fun k => g.length - k) 0 ⟨rfl, rfl, rfl, rfl, trivial⟩ (by repeat (first | exact Ent.refl _ | exact Ent.nil | refine Ent.pick ?_ | refine Ent.nilS ?_ | refine Ent.nilM ?_ | refine Ent.drop ?_)) (by omega) ?_
    intro k hk
    by_cases hlt : k < g.length
    · obtain ⟨x, hx⟩ := mem_get hlt
      rcases ha3 with ha3 | ⟨b3, rfl⟩
      · omega
      rcases ha4 with ha4 | ⟨b4, rfl⟩
      · omega
      have hr3 : RdC [slO 89 2 (some ⟨b4, 0, none⟩) g.length c4 (g.flatMap gcells), slO 88 2 (some ⟨b3, 0, none⟩) g.length c3 (g.flatMap gcells)] b3 (0 + k * 2) (gcells x) := RdC.elem (g := gcells) (fun _ => rfl) RdC.ofS hx
      have hr4 : RdC [slO 89 2 (some ⟨b4, 0, none⟩) g.length c4 (g.flatMap gcells), slO 88 2 (some ⟨b3, 0, none⟩) g.length c3 (g.flatMap gcells)] b4 (0 + k * 2) (gcells x) := RdC.elem (g := gcells) (fun _ => rfl) RdC.ofS hx
      repeat (first | (refine GQ.y ?_; refine Q.y ?_) | refine Q.go ?_ | (refine GQ.g ?_; refine Q.gq ?_) | (refine GQ.s ?_; refine Q.st ?_) | (refine GQ.g ?_; refine Q.gd ?_) | refine Q.ct rfl ?_ | refine Q.cf rfl ?_ | (refine GQ.a ?_; refine Q.al (fun b1 => ?_)))
      refine Q.dgo [true, true, false, false, false] [] [] [0, 1, 2, 3, 4, 5, 6, 7, 8, 9, 10, 11, 12, 13, 14, 15, 16, 17, 18, 19, 20, 21, 22, 23] ?_
      repeat (first | refine Q.dyn rfl rfl rfl ?_ | refine Q.dyl rfl rfl rfl ?_ | refine D.y rfl rfl rfl (by kernel_rfl) (by first | exact (Y.ldRj rfl (by first | assumption | exact RdC.sub (by assumption)) rfl) | exact Y.guard rfl (Y.ldRj rfl (by first | assumption | exact RdC.sub (by assumption)) rfl)) ?_ | refine D.endA ?_ | refine Q.dy rfl rfl rfl ?_ | refine Q.dp rfl rfl rfl ?_ | refine D.end_ ?_ | refine Q.endH ?_ | (refine D.e rfl rfl rfl ?_; (first | refine S.gskip1 rfl ?_ | refine S.gskip rfl ?_ | refine S.y (Y.gskipU rfl) ?_); refine opsS_nil ?_; refine N.tn ?_) | refine Q.dT rfl rfl rfl ?_ | refine Q.dF rfl rfl rfl ?_ | (refine D.e rfl rfl rfl ?_; (first | (refine GQ.a ?_; refine Q.al (fun b1 => ?_)) | (refine GQ.s ?_; refine Q.st ?_)); refine opsS_nil ?_; refine N.tn ?_))
      refine Q.dF rfl rfl rfl ?_ (by simp)
      repeat (first | refine Q.dyn rfl rfl rfl ?_ | refine Q.dyl rfl rfl rfl ?_ | refine D.y rfl rfl rfl (by kernel_rfl) (by first | exact (Y.ldRj rfl (by first | assumption | exact RdC.sub (by assumption)) rfl) | exact Y.guard rfl (Y.ldRj rfl (by first | assumption | exact RdC.sub (by assumption)) rfl)) ?_ | refine D.endA ?_ | refine Q.dy rfl rfl rfl ?_ | refine Q.dp rfl rfl rfl ?_ | refine D.end_ ?_ | refine Q.endH ?_ | (refine D.e rfl rfl rfl ?_; (first | refine S.gskip1 rfl ?_ | refine S.gskip rfl ?_ | refine S.y (Y.gskipU rfl) ?_); refine opsS_nil ?_; refine N.tn ?_) | refine Q.dT rfl rfl rfl ?_ | refine Q.dF rfl rfl rfl ?_ | (refine D.e rfl rfl rfl ?_; (first | (refine GQ.a ?_; refine Q.al (fun b1 => ?_)) | (refine GQ.s ?_; refine Q.st ?_)); refine opsS_nil ?_; refine N.tn ?_))
      repeat (first | (refine GQ.y ?_; refine Q.y ?_) | refine Q.go ?_ | (refine GQ.g ?_; refine Q.gq ?_) | (refine GQ.s ?_; refine Q.st ?_) | (refine GQ.g ?_; refine Q.gd ?_) | refine Q.ct rfl ?_ | refine Q.cf rfl ?_ | (refine GQ.a ?_; refine Q.al (fun b1 => ?_)))
      exact ⟨k + 1, ⟨rfl, rfl, rfl, rfl, trivial⟩, by repeat (first | exact Ent.refl _ | exact Ent.nil | refine Ent.pick ?_ | refine Ent.nilS ?_ | refine Ent.nilM ?_ | refine Ent.drop ?_), by omega, by omega⟩
    · have hke : k = g.length := by omega
      subst hke
      repeat (first | (refine GQ.y ?_; refine Q.y ?_) | refine Q.go ?_ | (refine GQ.g ?_; refine Q.gq ?_) | (refine GQ.s ?_; refine Q.st ?_) | (refine GQ.g ?_; refine Q.gd ?_) | refine Q.ct rfl ?_ | refine Q.cf rfl ?_ | (refine GQ.a ?_; refine Q.al (fun b1 => ?_)))
      exact N.r1 (RV.tmp rfl RV.nil) (by repeat (first | exact Ent.refl _ | exact Ent.nil | refine Ent.pick ?_ | refine Ent.nilS ?_ | refine Ent.nilM ?_ | refine Ent.drop ?_)) ⟨rfl, M2, hl1.trans hl2, rfl⟩
  rw [if_neg h8]
  have h5' : ¬ r = 5 := fun h => h5 (.inl h)
  have h6' : ¬ r = 6 := fun h => h5 (.inr (.inl h))
  have h7' : ¬ r = 7 := fun h => h5 (.inr (.inr h))
  repeat (first | (refine GQ.y ?_; refine Q.y ?_) | refine Q.go ?_ | (refine GQ.g ?_; refine Q.gq ?_) | (refine GQ.s ?_; refine Q.st ?_) | (refine GQ.g ?_; refine Q.gd ?_) | refine Q.ct rfl ?_ | refine Q.cf rfl ?_ | (refine GQ.a ?_; refine Q.al (fun b1 => ?_)))
  refine S.cr rfl (FewA_spec 18 a1 c1 us _ ⟨(hs1.mono hl2).rd, fun u hu => (hs2 u hu).rd⟩ hsc (by omega) (by omega)) ?_
  rintro _ _ ⟨a3, c3, ms, hms, hma, rfl, rfl⟩
  have hms' : ms.map OV.abs = us.map OV.abs := by rw [hms]; exact few_id (by rw [List.length_map]; omega) (fun x hx => by obtain ⟨u, hu, rfl⟩ := List.mem_map.1 hx; exact huv u hu)
  rw [← hus]
  have hml : ms.length = us.length := by have := congrArg List.length hms'; simpa using this
  have hmv : ∀ u ∈ ms, u.vec.length ≤ 10 := fun u hu => by
    have : u.abs ∈ us.map OV.abs := by rw [← hms']; exact List.mem_map_of_mem hu
    obtain ⟨w, hw1, e⟩ := List.mem_map.1 this
    have e2 : u.vec = w.vec := (congrArg Prod.snd e).symm
    rw [e2]; exact huv w hw1
  refine opsS_addr a3 (fun ha3 => ?_)
  clear hms hus
  repeat (first | (refine GQ.y ?_; refine Q.y ?_) | refine Q.go ?_ | (refine GQ.g ?_; refine Q.gq ?_) | (refine GQ.s ?_; refine Q.st ?_) | (refine GQ.g ?_; refine Q.gd ?_) | refine Q.ct rfl ?_ | refine Q.cf rfl ?_ | (refine GQ.a ?_; refine Q.al (fun b1 => ?_)))
  rename_i bx
  refine Q.dgo [false, false, true, false, true, false, false] [2, 6, 14] [] [0, 1, 3, 4, 5, 2, 6, 7, 8, 9, 10, 11, 12, 13, 14, 15, 16] ?_
  repeat (first | refine D.endA ?_ | refine Q.dy rfl rfl rfl ?_ | refine Q.dp rfl rfl rfl ?_ | refine D.end_ ?_ | refine Q.endH ?_ | (refine D.e rfl rfl rfl ?_; (first | refine S.gskip1 rfl ?_ | refine S.gskip rfl ?_ | refine S.y (Y.gskipU rfl) ?_); refine opsS_nil ?_; refine N.tn ?_) | refine Q.dT rfl rfl rfl ?_ | refine Q.dF rfl rfl rfl ?_ | (refine D.e rfl rfl rfl ?_; (first | (refine GQ.a ?_; refine Q.al (fun b1 => ?_)) | (refine GQ.s ?_; refine Q.st ?_)); refine opsS_nil ?_; refine N.tn ?_))
  refine D.e rfl rfl rfl ?_
  refine S.cv v rfl (Lock_spec v st ⟨o.txn, o.after, a3, c3, ms⟩ _ hw.ops ⟨RdS.ofS (flat_len2 _) ha3, fun u hu => vecs_rd hu hma⟩ (by dsimp only; omega) (fun u hu => by have := hmv u hu; omega) (by have := hw.d1; have := hw.d2; omega)) ?_
  rintro _ _ ⟨rfl, rfl⟩
  rw [hms']
  repeat (first | (refine GQ.y ?_; refine Q.y ?_) | refine Q.go ?_ | (refine GQ.g ?_; refine Q.gq ?_) | (refine GQ.s ?_; refine Q.st ?_) | (refine GQ.g ?_; refine Q.gd ?_) | refine Q.ct rfl ?_ | refine Q.cf rfl ?_ | (refine GQ.a ?_; refine Q.al (fun b1 => ?_)))
  repeat (first | refine D.endA ?_ | refine Q.dy rfl rfl rfl ?_ | refine Q.dp rfl rfl rfl ?_ | refine D.end_ ?_ | refine Q.endH ?_ | (refine D.e rfl rfl rfl ?_; (first | refine S.gskip1 rfl ?_ | refine S.gskip rfl ?_ | refine S.y (Y.gskipU rfl) ?_); refine opsS_nil ?_; refine N.tn ?_) | refine Q.dT rfl rfl rfl ?_ | refine Q.dF rfl rfl rfl ?_ | (refine D.e rfl rfl rfl ?_; (first | (refine GQ.a ?_; refine Q.al (fun b1 => ?_)) | (refine GQ.s ?_; refine Q.st ?_)); refine opsS_nil ?_; refine N.tn ?_))
  refine D.e rfl rfl rfl ?_
  refine S.cf p rfl (RLock_spec p st n ⟨o.txn, o.after, a1, c1, us⟩ _ hw hn ⟨(hs1.mono hl2).rd, fun u hu => (hs2 u hu).rd⟩ hc1 hsc (by dsimp only; omega) (fun u hu => by have := huv u hu; omega)) ?_
  rintro _ _ ⟨rfl, rfl⟩
  dsimp only
  generalize lockE st o.txn o.after (us.map OV.abs) = le
  generalize lockS st o.txn o.after (us.map OV.abs) = S2
  repeat (first | (refine GQ.y ?_; refine Q.y ?_) | refine Q.go ?_ | (refine GQ.g ?_; refine Q.gq ?_) | (refine GQ.s ?_; refine Q.st ?_) | (refine GQ.g ?_; refine Q.gd ?_) | refine Q.ct rfl ?_ | refine Q.cf rfl ?_ | (refine GQ.a ?_; refine Q.al (fun b1 => ?_)))
  repeat (first | refine D.endA ?_ | refine Q.dy rfl rfl rfl ?_ | refine Q.dp rfl rfl rfl ?_ | refine D.end_ ?_ | refine Q.endH ?_ | (refine D.e rfl rfl rfl ?_; (first | refine S.gskip1 rfl ?_ | refine S.gskip rfl ?_ | refine S.y (Y.gskipU rfl) ?_); refine opsS_nil ?_; refine N.tn ?_) | refine Q.dT rfl rfl rfl ?_ | refine Q.dF rfl rfl rfl ?_ | (refine D.e rfl rfl rfl ?_; (first | (refine GQ.a ?_; refine Q.al (fun b1 => ?_)) | (refine GQ.s ?_; refine Q.st ?_)); refine opsS_nil ?_; refine N.tn ?_))
  refine Q.dT rfl rfl rfl ?_ (by simp)
  repeat (first | refine D.endA ?_ | refine Q.dy rfl rfl rfl ?_ | refine Q.dp rfl rfl rfl ?_ | refine D.end_ ?_ | refine Q.endH ?_ | (refine D.e rfl rfl rfl ?_; (first | refine S.gskip1 rfl ?_ | refine S.gskip rfl ?_ | refine S.y (Y.gskipU rfl) ?_); refine opsS_nil ?_; refine N.tn ?_) | refine Q.dT rfl rfl rfl ?_ | refine Q.dF rfl rfl rfl ?_ | (refine D.e rfl rfl rfl ?_; (first | (refine GQ.a ?_; refine Q.al (fun b1 => ?_)) | (refine GQ.s ?_; refine Q.st ?_)); refine opsS_nil ?_; refine N.tn ?_))
  refine D.e rfl rfl rfl ?_
  refine S.guard rfl ?_
  refine S.cr rfl (SameOps_spec a3 c3 ms a1 c1 us _ ⟨RdS.ofS (flat_len2 _) ha3, fun u hu => vecs_rd hu hma⟩ ⟨(hs1.mono hl2).rd, fun u hu => (hs2 u hu).rd⟩ (by omega) (fun u hu => by have := hmv u hu; omega) hms') ?_
  rintro _ _ ⟨rfl, rfl⟩
  repeat (first | (refine GQ.y ?_; refine Q.y ?_) | refine Q.go ?_ | (refine GQ.g ?_; refine Q.gq ?_) | (refine GQ.s ?_; refine Q.st ?_) | (refine GQ.g ?_; refine Q.gd ?_) | refine Q.ct rfl ?_ | refine Q.cf rfl ?_ | (refine GQ.a ?_; refine Q.al (fun b1 => ?_)))
  repeat (first | refine D.endA ?_ | refine Q.dy rfl rfl rfl ?_ | refine Q.dp rfl rfl rfl ?_ | refine D.end_ ?_ | refine Q.endH ?_ | (refine D.e rfl rfl rfl ?_; (first | refine S.gskip1 rfl ?_ | refine S.gskip rfl ?_ | refine S.y (Y.gskipU rfl) ?_); refine opsS_nil ?_; refine N.tn ?_) | refine Q.dT rfl rfl rfl ?_ | refine Q.dF rfl rfl rfl ?_ | (refine D.e rfl rfl rfl ?_; (first | (refine GQ.a ?_; refine Q.al (fun b1 => ?_)) | (refine GQ.s ?_; refine Q.st ?_)); refine opsS_nil ?_; refine N.tn ?_))
  repeat (first | (refine GQ.y ?_; refine Q.y ?_) | refine Q.go ?_ | (refine GQ.g ?_; refine Q.gq ?_) | (refine GQ.s ?_; refine Q.st ?_) | (refine GQ.g ?_; refine Q.gd ?_) | refine Q.ct rfl ?_ | refine Q.cf rfl ?_ | (refine GQ.a ?_; refine Q.al (fun b1 => ?_)))
  refine swp_loop (σ := Nat × List (Option Addr × Nat × List Value)) (fun u => [(11, .bool true), (125, .slice a3 ms.length c3), (126, .int .i64 ms.length), (127, .int .i64 u.1)])
    (fun u => bodV 21 (u.2 ++ (ms.drop u.1).map bodO) :: slO 64 2 a3 ms.length c3 (ms.flatMap OV.cells) :: vaultH v S2 :: refH p S2 :: roM M2 :: A) (fun u => u.1 ≤ ms.length) (fun u => ms.length - u.1) (0, []) ⟨rfl, rfl, rfl, rfl, trivial⟩ ?_ (by dsimp only; omega) ?_
  · show Ent _ (vecsH ms :: _)
    repeat (first | exact Ent.refl _ | exact Ent.nil | refine Ent.pick ?_ | refine Ent.nilS ?_ | refine Ent.nilM ?_ | refine Ent.drop ?_)
  rintro ⟨k, pre⟩ hk
  dsimp only at hk ⊢
  by_cases hlt : k < ms.length
  · obtain ⟨m, hm⟩ := mem_get hlt
    have hmm : m ∈ ms := List.mem_of_getElem? hm
    have hm2 := hma m hmm
    have hm10 := hmv m hmm
    have htl : (ms.drop k).map bodO = bodO m :: (ms.drop (k + 1)).map bodO := by
      rw [List.drop_eq_getElem_cons hlt]
      have := List.getElem?_eq_getElem hlt
      rw [hm] at this
      rw [← Option.some.inj this]; rfl
    rw [htl]
    obtain ⟨tl, htl2⟩ : ∃ tl, tl = (ms.drop (k + 1)).map bodO := ⟨_, rfl⟩
    rw [← htl2]
    rcases ha3 with ha3 | ⟨b3, rfl⟩
    · omega
    have hr : RdC (bodV 21 (pre ++ bodO m :: tl) :: slO 64 2 (some ⟨b3, 0, none⟩) ms.length c3 (ms.flatMap OV.cells) :: vaultH v S2 :: refH p S2 :: roM M2 :: A) b3 (0 + k * 2) (OV.cells m) := RdC.elem (g := OV.cells) (fun _ => rfl) RdC.ofS hm
    repeat (first | (refine GQ.y ?_; refine Q.y ?_) | refine Q.go ?_ | (refine GQ.g ?_; refine Q.gq ?_) | (refine GQ.s ?_; refine Q.st ?_) | (refine GQ.g ?_; refine Q.gd ?_) | refine Q.ct rfl ?_ | refine Q.cf rfl ?_ | (refine GQ.a ?_; refine Q.al (fun b1 => ?_)))
    refine swp_loop (σ := Nat × List Value) (fun u => [(11, .bool true), (13, .pointer (some ⟨b1, 0, none⟩)), (125, .slice (some ⟨b3, 0, none⟩) ms.length c3), (126, .int .i64 ms.length), (127, .int .i64 k), (133, .int .i64 m.vec.length), (134, .int .i64 u.1)])
      (fun u => slO 21 1 m.a m.vec.length m.c u.2 :: bodV 21 (pre ++ tl) :: pt b1 (cl m.cells 64) :: slO 64 2 (some ⟨b3, 0, none⟩) ms.length c3 (ms.flatMap OV.cells) :: vaultH v S2 :: refH p S2 :: roM M2 :: A)
      (fun u => u.1 ≤ m.vec.length ∧ u.2.length = m.vec.length ∧ ∀ v ∈ u.2, ∃ z, v = .int .i32 z) (fun u => m.vec.length - u.1) (0, m.vec.map I32) ⟨rfl, rfl, rfl, rfl, rfl, rfl, rfl, trivial⟩ ?_ ⟨by dsimp only; omega, by simp, ?_⟩ ?_
    · dsimp only
      refine Ent.trans (?_ : Ent _ (bodV 21 (pre ++ bodO m :: tl) :: pt b1 (cl m.cells 64) :: slO 64 2 (some ⟨b3, 0, none⟩) ms.length c3 (ms.flatMap OV.cells) :: vaultH v S2 :: refH p S2 :: roM M2 :: A)) (bodV_out' (by simp))
      repeat (first | exact Ent.refl _ | exact Ent.nil | refine Ent.pick ?_ | refine Ent.nilS ?_ | refine Ent.nilM ?_ | refine Ent.drop ?_)
    · intro v hv
      obtain ⟨z, _, rfl⟩ := List.mem_map.1 hv
      exact ⟨_, rfl⟩
    rintro ⟨y, cs⟩ ⟨hy, hcs, hall⟩
    dsimp only at hy hcs hall ⊢
    by_cases hlt2 : y < m.vec.length
    · obtain ⟨w, hv⟩ := mem_get (l := cs) (k := y) (by omega)
      obtain ⟨z, rfl⟩ := hall w (List.mem_of_getElem? hv)
      obtain ⟨bw, hbw⟩ := hm2.resolve_left (by omega)
      repeat (first | (refine GQ.y ?_; refine Q.y ?_) | refine Q.go ?_ | (refine GQ.g ?_; refine Q.gq ?_) | (refine GQ.s ?_; refine Q.st ?_) | (refine GQ.g ?_; refine Q.gd ?_) | refine Q.ct rfl ?_ | refine Q.cf rfl ?_ | (refine GQ.a ?_; refine Q.al (fun b1 => ?_)))
      rw [hbw]
      repeat (first | (refine GQ.y ?_; refine Q.y ?_) | refine Q.go ?_ | (refine GQ.g ?_; refine Q.gq ?_) | (refine GQ.s ?_; refine Q.st ?_) | (refine GQ.g ?_; refine Q.gd ?_) | refine Q.ct rfl ?_ | refine Q.cf rfl ?_ | (refine GQ.a ?_; refine Q.al (fun b1 => ?_)))
      refine S.y (Y.ldR (v := .int .i32 z) rfl (RdC.ofS.at (j := y * 1) (by rw [Nat.mul_one]; exact hv))) ?_
      refine S.y (Y.xor rfl rfl) ?_
      repeat (first | (refine GQ.y ?_; refine Q.y ?_) | refine Q.go ?_ | (refine GQ.g ?_; refine Q.gq ?_) | (refine GQ.s ?_; refine Q.st ?_) | (refine GQ.g ?_; refine Q.gd ?_) | refine Q.ct rfl ?_ | refine Q.cf rfl ?_ | (refine GQ.a ?_; refine Q.al (fun b1 => ?_)))
      refine S.stO rfl rfl rfl (by omega) rfl ?_
      repeat (first | (refine GQ.y ?_; refine Q.y ?_) | refine Q.go ?_ | (refine GQ.g ?_; refine Q.gq ?_) | (refine GQ.s ?_; refine Q.st ?_) | (refine GQ.g ?_; refine Q.gd ?_) | refine Q.ct rfl ?_ | refine Q.cf rfl ?_ | (refine GQ.a ?_; refine Q.al (fun b1 => ?_)))
      refine ⟨(y + 1, cs.set (0 + y * 1) (.int .i32 (IntKind.i32.wrap ((BitVec.ofInt IntKind.i32.bits z) ^^^ (BitVec.ofInt IntKind.i32.bits 1)).toNat))), ⟨rfl, rfl, rfl, rfl, rfl, rfl, congrArg some (congrArg (Value.int .i64) (by simp)), trivial⟩, ?_, ⟨by dsimp only; omega, by simp [hcs], ?_⟩, by dsimp only; omega⟩
      · (try dsimp only); repeat (first | exact Ent.refl _ | exact Ent.nil | refine Ent.pick ?_ | refine Ent.nilS ?_ | refine Ent.nilM ?_ | refine Ent.drop ?_)
      · intro v hv
        rcases List.mem_or_eq_of_mem_set hv with hv | rfl
        · exact hall v hv
        · exact ⟨_, rfl⟩
    · repeat (first | (refine GQ.y ?_; refine Q.y ?_) | refine Q.go ?_ | (refine GQ.g ?_; refine Q.gq ?_) | (refine GQ.s ?_; refine Q.st ?_) | (refine GQ.g ?_; refine Q.gd ?_) | refine Q.ct rfl ?_ | refine Q.cf rfl ?_ | (refine GQ.a ?_; refine Q.al (fun b1 => ?_)))
      refine ⟨(k + 1, pre ++ [(m.a, m.c, cs)]), ⟨rfl, rfl, rfl, congrArg some (congrArg (Value.int .i64) (by simp)), trivial⟩, ?_, by dsimp only; omega, by dsimp only; omega⟩
      dsimp only
      rw [List.append_assoc, ← htl2]
      show Ent _ (bodV 21 (pre ++ (m.a, m.c, cs) :: tl) :: _)
      refine Ent.trans (bodV_in' hcs.symm) ?_
      repeat (first | exact Ent.refl _ | exact Ent.nil | refine Ent.pick ?_ | refine Ent.nilS ?_ | refine Ent.nilM ?_ | refine Ent.drop ?_)
  · have hke : k = ms.length := by omega
    subst hke
    repeat (first | (refine GQ.y ?_; refine Q.y ?_) | refine Q.go ?_ | (refine GQ.g ?_; refine Q.gq ?_) | (refine GQ.s ?_; refine Q.st ?_) | (refine GQ.g ?_; refine Q.gd ?_) | refine Q.ct rfl ?_ | refine Q.cf rfl ?_ | (refine GQ.a ?_; refine Q.al (fun b1 => ?_)))
    exact N.r1 (RV.tmp rfl RV.nil) (by repeat (first | exact Ent.refl _ | exact Ent.nil | refine Ent.pick ?_ | refine Ent.nilS ?_ | refine Ent.nilM ?_ | refine Ent.drop ?_)) ⟨rfl, M2, hl1.trans hl2, rfl⟩
end Go.Proofs.YtieejgbjgcbbjaaGreat
