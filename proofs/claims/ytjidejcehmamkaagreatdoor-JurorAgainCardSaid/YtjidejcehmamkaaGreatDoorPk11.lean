/- The juror's step, with the document's. JurorLocks: the walk. JurorVotes: the walk. The juror's Pack: what lasts, as bytes; keys, finished. The juror's numbers aren't too great, whatever comes. The juror's Pack, walked. JurorAgain: the walk. No condition. -/
import Derived.Test.YtjidejcehmamkaaGreatDoorPk10
set_option linter.unusedVariables false
set_option linter.unusedSimpArgs false
set_option linter.unusedSectionVars false
namespace Go.Proofs.YtjidejcehmamkaaGreatDoor
open Go Go.SX
attribute [local irreducible] swp opsS thenS blockS retS CallsS St Ent YieldS anyS drawS
structure S5 where
  b9 : Nat
  b10 : Nat
  ra : Option Addr
  rc : Nat
  ma : Option Addr
  mc : Nat
  ea : Option Addr
  ec : Nat
  qa : Option Addr
  qc : Nat
  qb : Option Addr
  qd : Nat
  qe : Option Addr
  qf : Nat
  M : Nat → Option Obj
theorem NumA.few {n' : NV} {n : NV} (h : NumA n.abs) (e : n'.abs = n.abs.few) : NumA n'.abs := by
  rw [e]; exact ⟨h.kind, h.txn, h.batch, h.stamp, h.after, h.mark, h.query, h.id, h.k, h.ef, h.code, h.who⟩
structure RecOK (n2 n1 : NV) (r : NA) : Prop where
  e1 : (liftN n2 r).abs = r
  e2 : (liftQ n1 r).abs = r
  n2 : NumN (liftN n2 r)
  u1 : NumA (liftQ n1 r).abs
theorem rec_ok {n2 n1 : NV} (he : n2.abs = n1.abs) (u : NumA n1.abs) {r : NA} {f : Int} (hr : rightN r = true) (h : (r = { n1.abs with kind := 12 } ∧ n1.abs.kind = 3 ∧ f = 0) ∨ r = comN n1.abs.txn n1.abs.stamp ∨ r = aboN n1.abs.txn) : RecOK n2 n1 r := by
  have z0 : (0 : Int) ≤ 0 ∧ (0 : Int) ≤ 18446744073709551615 := by decide
  have z1 : (0 : Int) ≤ 9223372036854775807 := by decide
  rcases h with ⟨rfl, h3, _⟩ | rfl | rfl
  · have hr1 : rightN n1.abs = true := by
      unfold rightN at hr ⊢
      rw [h3]
      exact hr
    have hz := right3 u hr1 h3
    refine ⟨?_, ?_, ?_, ?_⟩
    · unfold liftN
      rw [if_pos rfl]
      show ({ n2.abs with kind := 12 } : NA) = _
      rw [he]
    · unfold liftQ
      rw [if_pos rfl]
      have := congrArg (fun z : NA => ({ z with kind := 12 } : NA)) hz
      exact this.symm
    · unfold liftN
      rw [if_pos rfl]
      have a1 : n2.txn = n1.txn := congrArg NA.txn he
      have a2 : n2.stamp = n1.stamp := congrArg NA.stamp he
      have a3 : n2.mark = n1.mark := congrArg NA.mark he
      have a4 : n2.after = n1.after := congrArg NA.after he
      exact ⟨by show (0 : Int) ≤ 12 ∧ (12 : Int) ≤ 255; decide, by show 0 ≤ n2.txn; rw [a1]; exact u.txn.1, by show 0 ≤ n2.stamp; rw [a2]; exact u.stamp.1, by show 0 ≤ n2.mark; rw [a3]; exact u.mark.1, by show 0 ≤ n2.after; rw [a4]; exact u.after.1⟩
    · unfold liftQ
      rw [if_pos rfl]
      exact ⟨by show (0 : Int) ≤ 12 ∧ (12 : Int) ≤ 255; decide, u.txn, z0, z0, u.after, z0, z0, z0, z1, z1, z1, z1⟩
  · exact ⟨rfl, rfl, ⟨by show (0 : Int) ≤ 13 ∧ (13 : Int) ≤ 255; decide, u.txn.1, u.stamp.1, Int.le_refl _, Int.le_refl _⟩, ⟨by show (0 : Int) ≤ 13 ∧ (13 : Int) ≤ 255; decide, u.txn, z0, u.stamp, z0, z0, z0, z0, z1, z1, z1, z1⟩⟩
  · exact ⟨rfl, rfl, ⟨by show (0 : Int) ≤ 14 ∧ (14 : Int) ≤ 255; decide, u.txn.1, Int.le_refl _, Int.le_refl _, Int.le_refl _⟩, ⟨by show (0 : Int) ≤ 14 ∧ (14 : Int) ≤ 255; decide, u.txn, z0, z0, z0, z0, z0, z0, z1, z1, z1, z1⟩⟩
theorem okN.lift {M : Nat → Option Obj} {n : NV} (h : okN M n) (r : NA) : okN M (liftN n r) := by
  unfold liftN
  split
  · exact ⟨h.p, h.o, h.v, h.h, h.hv⟩
  · exact okN.nv r
theorem OkN.lift {n : NV} (h : OkN n) (r : NA) : OkN (liftN n r) := by
  unfold liftN
  split
  · exact ⟨h.p, h.o, h.ov, h.v, h.h, h.hv⟩
  · exact OkN.nv r
theorem okN.liftQ {M : Nat → Option Obj} {n : NV} (h : okN M n) (r : NA) : okN M (liftQ n r) := by
  unfold Go.Proofs.YtjidejcehmamkaaGreatDoor.liftQ
  split
  · exact ⟨h.p, h.o, SlM.nil0, SlM.nil0, fun o ho => by cases ho⟩
  · exact okN.nv r
theorem OkN.liftQ {n : NV} (h : OkN n) (r : NA) : OkN (liftQ n r) := by
  unfold Go.Proofs.YtjidejcehmamkaaGreatDoor.liftQ
  split
  · exact ⟨h.p, h.o, h.ov, Nat.zero_le _, Nat.zero_le _, fun o ho => by cases ho⟩
  · exact OkN.nv r
abbrev nvm (m : Int × NA) : Int × NV := (m.1, m.2.nv)
theorem flat_mail (l : List (Int × NA)) : l.flatMap mailC = (l.map nvm).flatMap mcells := by rw [List.flatMap_map]
theorem flat_rec (g : NA → NV) (l : List NA) : (l.flatMap fun r => (g r).cells) = (l.map g).flatMap NV.cells := by rw [List.flatMap_map]
theorem mail_rd {M : Nat → Option Obj} {L : List HP} [HasM M L] {a : Option Addr} {l : List (Int × NA)} (h : SlM M a l.length 17 (l.flatMap mailC)) : RdMs L a (l.map nvm) := by
  rw [flat_mail, ← List.length_map (f := nvm)] at h
  refine ⟨h.rd, fun m hm => ?_⟩
  obtain ⟨u, hu, rfl⟩ := List.mem_map.1 hm
  exact ⟨(okN.nv (M := M) u.2).rd, OkN.nv u.2⟩
theorem rec_rd {M : Nat → Option Obj} {L : List HP} [HasM M L] {a : Option Addr} {l : List NA} {g : NA → NV} (h : SlM M a l.length 16 (l.flatMap fun r => (g r).cells)) (hg : ∀ r, okN M (g r) ∧ OkN (g r)) : RdNs L a (l.map g) := by
  rw [flat_rec, ← List.length_map (f := g)] at h
  refine ⟨h.rd, fun m hm => ?_⟩
  obtain ⟨u, hu, rfl⟩ := List.mem_map.1 hm
  exact ⟨(hg u).1.rd, (hg u).2⟩
theorem recs_rd {M : Nat → Option Obj} {L : List HP} [HasM M L] {a : Option Addr} {l : List NA} {g : NA → NV} (h : SlM M a l.length 16 ((l.map g).flatMap NV.cells)) (hg : ∀ r, okN M (g r) ∧ OkN (g r)) : RdNs L a (l.map g) := rec_rd (by rw [flat_rec]; exact h) hg
theorem mails_rd {M : Nat → Option Obj} {L : List HP} [HasM M L] {a : Option Addr} {l : List (Int × NA)} (h : SlM M a l.length 17 ((l.map nvm).flatMap mcells)) : RdMs L a (l.map nvm) := mail_rd (by rw [flat_mail]; exact h)
theorem rec_rdS {M : Nat → Option Obj} {L : List HP} [HasM M L] {a : Option Addr} {l : List NA} {g : NA → NV} (h : SlM M a l.length 16 (l.flatMap fun r => (g r).cells)) : RdS L a (l.map g).length 16 ((l.map g).flatMap NV.cells) := by
  rw [flat_rec, ← List.length_map (f := g)] at h
  exact h.rd
theorem mail_rdS {M : Nat → Option Obj} {L : List HP} [HasM M L] {a : Option Addr} {l : List (Int × NA)} (h : SlM M a l.length 17 (l.flatMap mailC)) : RdS L a (l.map nvm).length 17 ((l.map nvm).flatMap mcells) := (mail_rd h).1
theorem capQ {n : NV} (h : n.ops.length ≤ n.oc) (hv : ∀ o ∈ n.ops, o.vec.length ≤ o.c) (r : NA) : (liftQ n r).ops.length ≤ (liftQ n r).oc ∧ ∀ o ∈ (liftQ n r).ops, o.vec.length ≤ o.c := by
  unfold liftQ
  split
  · exact ⟨h, hv⟩
  · exact ⟨Nat.le_refl _, fun o ho => by cases ho⟩
theorem plan_len {j : JS} {f : Int} {n : NA} : (planV j f n).mail.length ≤ 1 ∧ (planV j f n).els.length ≤ 1 ∧ ∀ m ∈ (planV j f n).mail ++ (planV j f n).els, m.2.nv.abs = m.2 := by
  unfold planV prepV deciV
  repeat' split
  all_goals refine ⟨by simp [PA.none], by simp [PA.none], ?_⟩
  all_goals simp [PA.none]
theorem planL_spec (ra : Option Addr) (rc l1 l2 l3 : Nat) (xs : List NV) (ma : Option Addr) (mc : Nat) (ms : List (Int × NV)) (ea : Option Addr) (ec : Nat) (es : List (Int × NV)) (A : List HP) (e1 : l1 = xs.length) (e2 : l2 = ms.length) (e3 : l3 = es.length) (h : RdS A ra xs.length 16 (xs.flatMap NV.cells)) (hm : RdS A ma ms.length 17 (ms.flatMap mcells)) (he : RdS A ea es.length 17 (es.flatMap mcells)) (h1 : l1 ≤ 1) (h2 : l2 ≤ 1) (h3 : l3 ≤ 1) :
    CallsS Tryz.prog 35 [.agg #[.slice ra l1 rc, .slice ma l2 mc, .slice ea l3 ec]] A (fun r L' => ∃ a1 c1 a2 c2 a3 c3, r = .agg #[.slice a1 l1 c1, .slice a2 l2 c2, .slice a3 l3 c3] ∧
      L' = slO 36 16 a1 l1 c1 (xs.flatMap NV.cells) :: slO 135 17 a2 l2 c2 (ms.flatMap mcells) :: slO 135 17 a3 l3 c3 (es.flatMap mcells) :: A) := by
  subst e1 e2 e3
  exact plan_spec ra rc xs ma mc ms ea ec es A h hm he (by omega) (by omega) (by omega)
theorem SamePlanL_spec (ra rb : Option Addr) (rc rd l1 l2 l3 : Nat) (xs ys : List NV) (ma mb ea eb : Option Addr) (mc md ec ed : Nat) (ms ns es fs : List (Int × NV)) (A : List HP) (h : RdNs A ra xs) (h' : RdNs A rb ys) (hm : RdMs A ma ms) (hm' : RdMs A mb ns) (he : RdMs A ea es) (he' : RdMs A eb fs)
    (k1 : l1 = xs.length) (k2 : l2 = ms.length) (k3 : l3 = es.length) (hn : l1 ≤ 1) (hn2 : l2 ≤ 1) (hn3 : l3 ≤ 1) (e1 : xs.map NV.abs = ys.map NV.abs) (e2 : ms.map (fun m => (m.1, m.2.abs)) = ns.map (fun m => (m.1, m.2.abs))) (e3 : es.map (fun m => (m.1, m.2.abs)) = fs.map (fun m => (m.1, m.2.abs))) :
    CallsS Tryz.prog 34 [.agg #[.slice ra l1 rc, .slice ma l2 mc, .slice ea l3 ec], .agg #[.slice rb l1 rd, .slice mb l2 md, .slice eb l3 ed]] A (fun v L' => v = .bool true ∧ L' = A) := by
  subst k1 k2 k3
  have a1 : ys.length = xs.length := by have := congrArg List.length e1; simp at this; omega
  have a2 : ns.length = ms.length := by have := congrArg List.length e2; simp at this; omega
  have a3 : fs.length = es.length := by have := congrArg List.length e3; simp at this; omega
  have := SamePlan_spec ra rb rc rd xs ys ma mb ea eb mc md ec ed ms ns es fs A h h' hm hm' he he' (by omega) (by omega) (by omega) e1 e2 e3
  rw [a1, a2, a3] at this
  exact this
set_option maxHeartbeats 8000000 in
theorem step_spec (o : EO) (p x : Nat) (j : JS) (k : Nat) (M : Nat → Option Obj) (L : List HP) (hj : JOW j k) (hk : k ≤ 9000) (ho : EOK M o) (hT : TabM M) :
    CallsS Tryz.prog 11 [ptrJ p, .pointer (some ⟨x, 0, none⟩), .agg o.cells.toArray] (jurH M p j :: rjH x j :: roM M :: L) (fun r L' => ∃ M', r = .bool true ∧ leM M M' ∧ L' = jurH M' p (stepS j o.fr o.n.abs.few o.w o.r) :: rjH x (stepS j o.fr o.n.abs.few o.w o.r) :: roM M' :: L) := by
  refine CallsS.of_body Tryz.func11 rfl rfl rfl ?_
  refine Q.r ?_; (repeat (intro b1; refine Q.r ?_))
  revert b1
  intro bo
  refine S.cm (args := [o.n.val]) rfl (NFew_spec o.n M _ ho.n ho.c) ?_
  rintro _ _ ⟨n1, M1, rfl, hl1, hn1, hc1, hoc1, he1, rfl⟩
  have hN1 := few_OkN he1
  have hu1 := ho.u.few he1
  have hua1 : NumA n1.abs := NumA.few ho.uu he1
  refine opsS_jm p hl1 ?_
  cases hraw : o.r with
  | true =>
    rw [show stepS j o.fr o.n.abs.few o.w true = appS j o.n.abs.few from rfl]
    refine Q.r ?_; (repeat (intro b1; refine Q.r ?_))
    refine Q.dgo [true] [2, 3, 6] [] [0, 1, 4, 5, 2, 3, 6, 7, 8] ?_
    refine Q.rd ?_; (repeat (intro b1; refine Q.rd ?_))
    refine D.e rfl rfl rfl ?_
    refine S.cm (args := [n1.val]) rfl (NFew_spec n1 M1 _ hn1 hc1) ?_
    rintro _ _ ⟨n2, M2, rfl, hl2, hn2, hc2, hoc2, he2, rfl⟩
    have he21 : n2.abs = n1.abs := by rw [he2, he1, few_few]
    refine opsS_jm p hl2 ?_
    refine Q.r ?_; (repeat (intro b1; refine Q.r ?_))
    refine Q.rd ?_; (repeat (intro b1; refine Q.rd ?_))
    refine D.e rfl rfl rfl ?_
    refine S.cj p rfl (Apply_spec' n2 M2 p j k _ hj.w (by omega) hn2 (few_OkN he2) (hT.mono (hl1.trans hl2)) (hu1.few he2)) ?_
    rintro _ _ ⟨M3, rfl, hl3, rfl⟩
    refine Q.r ?_; (repeat (intro b1; refine Q.r ?_))
    refine Q.rd ?_; (repeat (intro b1; refine Q.rd ?_))
    refine D.e rfl rfl rfl ?_
    refine S.c2 rfl (RApp_spec n1 x j k M3 _ hj (by omega) (hn1.mono (hl2.trans hl3)) hN1 hoc1 hc1.ov hua1) ?_
    rintro _ _ ⟨rfl, rfl⟩
    rw [he21, he1]
    refine Q.r ?_; (repeat (intro b1; refine Q.r ?_))
    refine Q.rd ?_; (repeat (intro b1; refine Q.rd ?_))
    refine Q.r ?_; (repeat (intro b1; refine Q.r ?_))
    exact N.r1 (RV.tmp rfl RV.nil) (by exact Go.SX.Ent.go) ⟨M3, by rw [decide_eq_true rfl], hl1.trans (hl2.trans hl3), rfl⟩
  | false =>
    refine Q.r ?_; (repeat (intro b1; refine Q.r ?_))
    revert b1
    intro b7
    refine S.cm (args := [n1.val]) rfl (NFew_spec n1 M1 _ hn1 hc1) ?_
    rintro _ _ ⟨n2, M2, rfl, hl2, hn2, hc2, hoc2, he2, rfl⟩
    have he21 : n2.abs = n1.abs := by rw [he2, he1, few_few]
    have hN2 := few_OkN he2
    have hu2 := hu1.few he2
    refine opsS_jm p hl2 ?_
    refine Q.r ?_; (repeat (intro b1; refine Q.r ?_))
    revert b1
    intro b8
    have hone := plan_one hj (n := o.n.abs.few) ho.uu.txn.1 o.fr
    have hpl := plan_len (j := j) (f := o.fr) (n := o.n.abs.few)
    have hstw : stepS j o.fr o.n.abs.few true false = (planV j o.fr o.n.abs.few).rec_.foldl appS j := rfl
    have hstf : stepS j o.fr o.n.abs.few false false = j := rfl
    have e1 : planV j o.fr n1.abs = planV j o.fr o.n.abs.few := by rw [he1]
    have e2 : planV j o.fr n2.abs = planV j o.fr o.n.abs.few := by rw [he21, he1]
    generalize planV j o.fr o.n.abs.few = pl at hone hpl hstw e1 e2
    have hM2 : leM M M2 := hl1.trans hl2
    refine swp_cutT (σ := S5) (fun s => [(0, ptrJ p), (1, .pointer (some ⟨x, 0, none⟩)), (5, .pointer (some ⟨bo, 0, none⟩)), (7, .pointer (some ⟨b7, 0, none⟩)), (8, .pointer (some ⟨b8, 0, none⟩)), (9, .pointer (some ⟨s.b9, 0, none⟩)), (10, .pointer (some ⟨s.b10, 0, none⟩))])
      (fun s => pt s.b9 (cl [.slice s.ra pl.rec_.length s.rc, .slice s.ma pl.mail.length s.mc, .slice s.ea pl.els.length s.ec] 55) :: pt s.b10 (cl [.slice s.qa pl.rec_.length s.qc, .slice s.qb pl.mail.length s.qd, .slice s.qe pl.els.length s.qf] 97) ::
        pt b8 (cl n2.cells 57) :: pt b7 (cl n1.cells 36) :: pt bo (cl ({ o with r := false } : EO).cells 38) ::
        slO 57 16 s.ra pl.rec_.length s.rc (pl.rec_.flatMap fun r => (liftN n2 r).cells) :: slO 62 17 s.ma pl.mail.length s.mc (pl.mail.flatMap mailC) :: slO 62 17 s.ea pl.els.length s.ec (pl.els.flatMap mailC) ::
        slO 36 16 s.qa pl.rec_.length s.qc (pl.rec_.flatMap fun r => (liftQ n1 r).cells) :: slO 135 17 s.qb pl.mail.length s.qd (pl.mail.flatMap mailC) :: slO 135 17 s.qe pl.els.length s.qf (pl.els.flatMap mailC) :: jurH s.M p j :: rjH x j :: roM s.M :: L) (fun s => leM M2 s.M) ?_ ?_
    · refine Q.dgo [true, false, false, true, true] [4, 9, 10, 11, 12, 13] [] [0, 1, 2, 3, 5, 6, 7, 8, 99999, 0, 0, 0, 0, 0] ?_
      repeat (first | refine D.endA ?_ | refine Q.dp rfl rfl rfl ?_ | refine Q.dy rfl rfl rfl ?_ | refine D.end_ ?_ | refine Q.endH ?_ | (refine D.e rfl rfl rfl ?_; (first | refine S.gskip1 rfl ?_ | refine S.gskip rfl ?_ | refine S.y (Y.gskipU rfl) ?_); refine opsS_nil ?_; refine N.tn ?_))
      refine D.three 4 10 11 [99999, 0, 0, 0, 0] [99999, 0, 0, 0, 0] [99999, 0, 0, 0, 0] (by kernel_rfl) rfl rfl rfl rfl rfl rfl (by kernel_rfl) (by kernel_rfl) (by kernel_rfl) ?_ ?_ ?_
      · refine S.cj p rfl (Plan_spec n2 M2 p j k o.fr _ hj.w (by omega) hj.ne hn2 hN2 (hT.mono hM2) hu2.kind) ?_
        rintro _ _ ⟨ra, rc, ma, mc, ea, ec, M3, rfl, hl3, rfl⟩
        rw [e2]
        refine Q.r ?_; (repeat (intro b1; refine Q.r ?_))
        repeat (first | refine D.endA ?_ | refine Q.dp rfl rfl rfl ?_ | refine Q.dy rfl rfl rfl ?_ | refine D.end_ ?_ | refine Q.endH ?_ | (refine D.e rfl rfl rfl ?_; (first | refine S.gskip1 rfl ?_ | refine S.gskip rfl ?_ | refine S.y (Y.gskipU rfl) ?_); refine opsS_nil ?_; refine N.tn ?_))
        refine D.three 9 10 11 [99999, 0, 0, 0] [99999, 0, 0, 0] [99999, 0, 0, 0] (by kernel_rfl) rfl rfl rfl rfl rfl rfl (by kernel_rfl) (by kernel_rfl) (by kernel_rfl) ?_ ?_ ?_
        · refine S.c2 rfl (RDo_spec n1 x j k o.fr M3 _ hj (by omega) (hn1.mono (hl2.trans hl3)) hN1 hoc1 hua1) ?_
          rintro _ _ ⟨qa, qc, qb, qd, qe, qf, rfl, rfl⟩
          rw [e1]
          refine Q.r ?_; (repeat (intro b1; refine Q.r ?_))
          repeat (first | refine D.endA ?_ | refine Q.dp rfl rfl rfl ?_ | refine Q.dy rfl rfl rfl ?_ | refine D.end_ ?_ | refine Q.endH ?_ | (refine D.e rfl rfl rfl ?_; (first | refine S.gskip1 rfl ?_ | refine S.gskip rfl ?_ | refine S.y (Y.gskipU rfl) ?_); refine opsS_nil ?_; refine N.tn ?_))
          refine D.two 10 11 [11, 12, 13] [10, 12, 13] (by kernel_rfl) rfl rfl rfl rfl (by kernel_rfl) (by kernel_rfl) ?_ ?_
          · refine GQ.a ?_
            refine Q.al (fun b9 => ?_)
            refine Q.r ?_; (repeat (intro b1; refine Q.r ?_))
            repeat (first | refine D.endA ?_ | refine Q.dp rfl rfl rfl ?_ | refine Q.dy rfl rfl rfl ?_ | refine D.end_ ?_ | refine Q.endH ?_ | (refine D.e rfl rfl rfl ?_; (first | refine S.gskip1 rfl ?_ | refine S.gskip rfl ?_ | refine S.y (Y.gskipU rfl) ?_); refine opsS_nil ?_; refine N.tn ?_))
            refine D.e rfl rfl rfl ?_
            refine GQ.a ?_
            refine Q.al (fun b10 => ?_)
            refine Q.r ?_; (repeat (intro b1; refine Q.r ?_))
            repeat (first | refine D.endA ?_ | refine Q.dp rfl rfl rfl ?_ | refine Q.dy rfl rfl rfl ?_ | refine D.end_ ?_ | refine Q.endH ?_ | (refine D.e rfl rfl rfl ?_; (first | refine S.gskip1 rfl ?_ | refine S.gskip rfl ?_ | refine S.y (Y.gskipU rfl) ?_); refine opsS_nil ?_; refine N.tn ?_))
            refine D.e rfl rfl rfl ?_
            refine Q.r ?_; (repeat (intro b1; refine Q.r ?_))
            repeat (first | refine D.endA ?_ | refine Q.dp rfl rfl rfl ?_ | refine Q.dy rfl rfl rfl ?_ | refine D.end_ ?_ | refine Q.endH ?_ | (refine D.e rfl rfl rfl ?_; (first | refine S.gskip1 rfl ?_ | refine S.gskip rfl ?_ | refine S.y (Y.gskipU rfl) ?_); refine opsS_nil ?_; refine N.tn ?_))
            refine D.e rfl rfl rfl ?_
            refine Q.r ?_; (repeat (intro b1; refine Q.r ?_))
            repeat (first | refine D.endA ?_ | refine Q.dp rfl rfl rfl ?_ | refine Q.dy rfl rfl rfl ?_ | refine D.end_ ?_ | refine Q.endH ?_ | (refine D.e rfl rfl rfl ?_; (first | refine S.gskip1 rfl ?_ | refine S.gskip rfl ?_ | refine S.y (Y.gskipU rfl) ?_); refine opsS_nil ?_; refine N.tn ?_))
            repeat (first | refine D.endA ?_ | refine Q.dp rfl rfl rfl ?_ | refine Q.dy rfl rfl rfl ?_ | refine D.end_ ?_ | refine Q.endH ?_ | (refine D.e rfl rfl rfl ?_; (first | refine S.gskip1 rfl ?_ | refine S.gskip rfl ?_ | refine S.y (Y.gskipU rfl) ?_); refine opsS_nil ?_; refine N.tn ?_))
            refine N.tn ⟨⟨b9, b10, ra, rc, ma, mc, ea, ec, qa, qc, qb, qd, qe, qf, M3⟩, ⟨rfl, rfl, rfl, rfl, rfl, rfl, rfl, trivial⟩, ?_, hl3⟩
            (try dsimp only); exact Go.SX.Ent.go
          · refine GQ.a ?_
            refine Q.al (fun b10 => ?_)
            refine Q.r ?_; (repeat (intro b1; refine Q.r ?_))
            repeat (first | refine D.endA ?_ | refine Q.dp rfl rfl rfl ?_ | refine Q.dy rfl rfl rfl ?_ | refine D.end_ ?_ | refine Q.endH ?_ | (refine D.e rfl rfl rfl ?_; (first | refine S.gskip1 rfl ?_ | refine S.gskip rfl ?_ | refine S.y (Y.gskipU rfl) ?_); refine opsS_nil ?_; refine N.tn ?_))
            refine D.e rfl rfl rfl ?_
            refine GQ.a ?_
            refine Q.al (fun b9 => ?_)
            refine Q.r ?_; (repeat (intro b1; refine Q.r ?_))
            repeat (first | refine D.endA ?_ | refine Q.dp rfl rfl rfl ?_ | refine Q.dy rfl rfl rfl ?_ | refine D.end_ ?_ | refine Q.endH ?_ | (refine D.e rfl rfl rfl ?_; (first | refine S.gskip1 rfl ?_ | refine S.gskip rfl ?_ | refine S.y (Y.gskipU rfl) ?_); refine opsS_nil ?_; refine N.tn ?_))
            refine D.e rfl rfl rfl ?_
            refine Q.r ?_; (repeat (intro b1; refine Q.r ?_))
            repeat (first | refine D.endA ?_ | refine Q.dp rfl rfl rfl ?_ | refine Q.dy rfl rfl rfl ?_ | refine D.end_ ?_ | refine Q.endH ?_ | (refine D.e rfl rfl rfl ?_; (first | refine S.gskip1 rfl ?_ | refine S.gskip rfl ?_ | refine S.y (Y.gskipU rfl) ?_); refine opsS_nil ?_; refine N.tn ?_))
            refine D.e rfl rfl rfl ?_
            refine Q.r ?_; (repeat (intro b1; refine Q.r ?_))
            repeat (first | refine D.endA ?_ | refine Q.dp rfl rfl rfl ?_ | refine Q.dy rfl rfl rfl ?_ | refine D.end_ ?_ | refine Q.endH ?_ | (refine D.e rfl rfl rfl ?_; (first | refine S.gskip1 rfl ?_ | refine S.gskip rfl ?_ | refine S.y (Y.gskipU rfl) ?_); refine opsS_nil ?_; refine N.tn ?_))
            repeat (first | refine D.endA ?_ | refine Q.dp rfl rfl rfl ?_ | refine Q.dy rfl rfl rfl ?_ | refine D.end_ ?_ | refine Q.endH ?_ | (refine D.e rfl rfl rfl ?_; (first | refine S.gskip1 rfl ?_ | refine S.gskip rfl ?_ | refine S.y (Y.gskipU rfl) ?_); refine opsS_nil ?_; refine N.tn ?_))
            refine N.tn ⟨⟨b9, b10, ra, rc, ma, mc, ea, ec, qa, qc, qb, qd, qe, qf, M3⟩, ⟨rfl, rfl, rfl, rfl, rfl, rfl, rfl, trivial⟩, ?_, hl3⟩
            (try dsimp only); exact Go.SX.Ent.go
        · refine GQ.a ?_
          refine Q.al (fun b9 => ?_)
          refine Q.r ?_; (repeat (intro b1; refine Q.r ?_))
          repeat (first | refine D.endA ?_ | refine Q.dp rfl rfl rfl ?_ | refine Q.dy rfl rfl rfl ?_ | refine D.end_ ?_ | refine Q.endH ?_ | (refine D.e rfl rfl rfl ?_; (first | refine S.gskip1 rfl ?_ | refine S.gskip rfl ?_ | refine S.y (Y.gskipU rfl) ?_); refine opsS_nil ?_; refine N.tn ?_))
          refine D.two 9 11 [11, 12, 13] [9, 12, 13] (by kernel_rfl) rfl rfl rfl rfl (by kernel_rfl) (by kernel_rfl) ?_ ?_
          · refine S.c2 rfl (RDo_spec n1 x j k o.fr M3 _ hj (by omega) (hn1.mono (hl2.trans hl3)) hN1 hoc1 hua1) ?_
            rintro _ _ ⟨qa, qc, qb, qd, qe, qf, rfl, rfl⟩
            rw [e1]
            refine Q.r ?_; (repeat (intro b1; refine Q.r ?_))
            repeat (first | refine D.endA ?_ | refine Q.dp rfl rfl rfl ?_ | refine Q.dy rfl rfl rfl ?_ | refine D.end_ ?_ | refine Q.endH ?_ | (refine D.e rfl rfl rfl ?_; (first | refine S.gskip1 rfl ?_ | refine S.gskip rfl ?_ | refine S.y (Y.gskipU rfl) ?_); refine opsS_nil ?_; refine N.tn ?_))
            refine D.e rfl rfl rfl ?_
            refine GQ.a ?_
            refine Q.al (fun b10 => ?_)
            refine Q.r ?_; (repeat (intro b1; refine Q.r ?_))
            repeat (first | refine D.endA ?_ | refine Q.dp rfl rfl rfl ?_ | refine Q.dy rfl rfl rfl ?_ | refine D.end_ ?_ | refine Q.endH ?_ | (refine D.e rfl rfl rfl ?_; (first | refine S.gskip1 rfl ?_ | refine S.gskip rfl ?_ | refine S.y (Y.gskipU rfl) ?_); refine opsS_nil ?_; refine N.tn ?_))
            refine D.e rfl rfl rfl ?_
            refine Q.r ?_; (repeat (intro b1; refine Q.r ?_))
            repeat (first | refine D.endA ?_ | refine Q.dp rfl rfl rfl ?_ | refine Q.dy rfl rfl rfl ?_ | refine D.end_ ?_ | refine Q.endH ?_ | (refine D.e rfl rfl rfl ?_; (first | refine S.gskip1 rfl ?_ | refine S.gskip rfl ?_ | refine S.y (Y.gskipU rfl) ?_); refine opsS_nil ?_; refine N.tn ?_))
            refine D.e rfl rfl rfl ?_
            refine Q.r ?_; (repeat (intro b1; refine Q.r ?_))
            repeat (first | refine D.endA ?_ | refine Q.dp rfl rfl rfl ?_ | refine Q.dy rfl rfl rfl ?_ | refine D.end_ ?_ | refine Q.endH ?_ | (refine D.e rfl rfl rfl ?_; (first | refine S.gskip1 rfl ?_ | refine S.gskip rfl ?_ | refine S.y (Y.gskipU rfl) ?_); refine opsS_nil ?_; refine N.tn ?_))
            repeat (first | refine D.endA ?_ | refine Q.dp rfl rfl rfl ?_ | refine Q.dy rfl rfl rfl ?_ | refine D.end_ ?_ | refine Q.endH ?_ | (refine D.e rfl rfl rfl ?_; (first | refine S.gskip1 rfl ?_ | refine S.gskip rfl ?_ | refine S.y (Y.gskipU rfl) ?_); refine opsS_nil ?_; refine N.tn ?_))
            refine N.tn ⟨⟨b9, b10, ra, rc, ma, mc, ea, ec, qa, qc, qb, qd, qe, qf, M3⟩, ⟨rfl, rfl, rfl, rfl, rfl, rfl, rfl, trivial⟩, ?_, hl3⟩
            (try dsimp only); exact Go.SX.Ent.go
          · refine GQ.a ?_
            refine Q.al (fun b10 => ?_)
            refine Q.r ?_; (repeat (intro b1; refine Q.r ?_))
            repeat (first | refine D.endA ?_ | refine Q.dp rfl rfl rfl ?_ | refine Q.dy rfl rfl rfl ?_ | refine D.end_ ?_ | refine Q.endH ?_ | (refine D.e rfl rfl rfl ?_; (first | refine S.gskip1 rfl ?_ | refine S.gskip rfl ?_ | refine S.y (Y.gskipU rfl) ?_); refine opsS_nil ?_; refine N.tn ?_))
            refine D.e rfl rfl rfl ?_
            refine S.c2 rfl (RDo_spec n1 x j k o.fr M3 _ hj (by omega) (hn1.mono (hl2.trans hl3)) hN1 hoc1 hua1) ?_
            rintro _ _ ⟨qa, qc, qb, qd, qe, qf, rfl, rfl⟩
            rw [e1]
            refine Q.r ?_; (repeat (intro b1; refine Q.r ?_))
            repeat (first | refine D.endA ?_ | refine Q.dp rfl rfl rfl ?_ | refine Q.dy rfl rfl rfl ?_ | refine D.end_ ?_ | refine Q.endH ?_ | (refine D.e rfl rfl rfl ?_; (first | refine S.gskip1 rfl ?_ | refine S.gskip rfl ?_ | refine S.y (Y.gskipU rfl) ?_); refine opsS_nil ?_; refine N.tn ?_))
            refine D.e rfl rfl rfl ?_
            refine Q.r ?_; (repeat (intro b1; refine Q.r ?_))
            repeat (first | refine D.endA ?_ | refine Q.dp rfl rfl rfl ?_ | refine Q.dy rfl rfl rfl ?_ | refine D.end_ ?_ | refine Q.endH ?_ | (refine D.e rfl rfl rfl ?_; (first | refine S.gskip1 rfl ?_ | refine S.gskip rfl ?_ | refine S.y (Y.gskipU rfl) ?_); refine opsS_nil ?_; refine N.tn ?_))
            refine D.e rfl rfl rfl ?_
            refine Q.r ?_; (repeat (intro b1; refine Q.r ?_))
            repeat (first | refine D.endA ?_ | refine Q.dp rfl rfl rfl ?_ | refine Q.dy rfl rfl rfl ?_ | refine D.end_ ?_ | refine Q.endH ?_ | (refine D.e rfl rfl rfl ?_; (first | refine S.gskip1 rfl ?_ | refine S.gskip rfl ?_ | refine S.y (Y.gskipU rfl) ?_); refine opsS_nil ?_; refine N.tn ?_))
            repeat (first | refine D.endA ?_ | refine Q.dp rfl rfl rfl ?_ | refine Q.dy rfl rfl rfl ?_ | refine D.end_ ?_ | refine Q.endH ?_ | (refine D.e rfl rfl rfl ?_; (first | refine S.gskip1 rfl ?_ | refine S.gskip rfl ?_ | refine S.y (Y.gskipU rfl) ?_); refine opsS_nil ?_; refine N.tn ?_))
            refine N.tn ⟨⟨b9, b10, ra, rc, ma, mc, ea, ec, qa, qc, qb, qd, qe, qf, M3⟩, ⟨rfl, rfl, rfl, rfl, rfl, rfl, rfl, trivial⟩, ?_, hl3⟩
            (try dsimp only); exact Go.SX.Ent.go
        · refine GQ.a ?_
          refine Q.al (fun b10 => ?_)
          refine Q.r ?_; (repeat (intro b1; refine Q.r ?_))
          repeat (first | refine D.endA ?_ | refine Q.dp rfl rfl rfl ?_ | refine Q.dy rfl rfl rfl ?_ | refine D.end_ ?_ | refine Q.endH ?_ | (refine D.e rfl rfl rfl ?_; (first | refine S.gskip1 rfl ?_ | refine S.gskip rfl ?_ | refine S.y (Y.gskipU rfl) ?_); refine opsS_nil ?_; refine N.tn ?_))
          refine D.two 9 10 [10, 12, 13] [9, 12, 13] (by kernel_rfl) rfl rfl rfl rfl (by kernel_rfl) (by kernel_rfl) ?_ ?_
          · refine S.c2 rfl (RDo_spec n1 x j k o.fr M3 _ hj (by omega) (hn1.mono (hl2.trans hl3)) hN1 hoc1 hua1) ?_
            rintro _ _ ⟨qa, qc, qb, qd, qe, qf, rfl, rfl⟩
            rw [e1]
            refine Q.r ?_; (repeat (intro b1; refine Q.r ?_))
            repeat (first | refine D.endA ?_ | refine Q.dp rfl rfl rfl ?_ | refine Q.dy rfl rfl rfl ?_ | refine D.end_ ?_ | refine Q.endH ?_ | (refine D.e rfl rfl rfl ?_; (first | refine S.gskip1 rfl ?_ | refine S.gskip rfl ?_ | refine S.y (Y.gskipU rfl) ?_); refine opsS_nil ?_; refine N.tn ?_))
            refine D.e rfl rfl rfl ?_
            refine GQ.a ?_
            refine Q.al (fun b9 => ?_)
            refine Q.r ?_; (repeat (intro b1; refine Q.r ?_))
            repeat (first | refine D.endA ?_ | refine Q.dp rfl rfl rfl ?_ | refine Q.dy rfl rfl rfl ?_ | refine D.end_ ?_ | refine Q.endH ?_ | (refine D.e rfl rfl rfl ?_; (first | refine S.gskip1 rfl ?_ | refine S.gskip rfl ?_ | refine S.y (Y.gskipU rfl) ?_); refine opsS_nil ?_; refine N.tn ?_))
            refine D.e rfl rfl rfl ?_
            refine Q.r ?_; (repeat (intro b1; refine Q.r ?_))
            repeat (first | refine D.endA ?_ | refine Q.dp rfl rfl rfl ?_ | refine Q.dy rfl rfl rfl ?_ | refine D.end_ ?_ | refine Q.endH ?_ | (refine D.e rfl rfl rfl ?_; (first | refine S.gskip1 rfl ?_ | refine S.gskip rfl ?_ | refine S.y (Y.gskipU rfl) ?_); refine opsS_nil ?_; refine N.tn ?_))
            refine D.e rfl rfl rfl ?_
            refine Q.r ?_; (repeat (intro b1; refine Q.r ?_))
            repeat (first | refine D.endA ?_ | refine Q.dp rfl rfl rfl ?_ | refine Q.dy rfl rfl rfl ?_ | refine D.end_ ?_ | refine Q.endH ?_ | (refine D.e rfl rfl rfl ?_; (first | refine S.gskip1 rfl ?_ | refine S.gskip rfl ?_ | refine S.y (Y.gskipU rfl) ?_); refine opsS_nil ?_; refine N.tn ?_))
            repeat (first | refine D.endA ?_ | refine Q.dp rfl rfl rfl ?_ | refine Q.dy rfl rfl rfl ?_ | refine D.end_ ?_ | refine Q.endH ?_ | (refine D.e rfl rfl rfl ?_; (first | refine S.gskip1 rfl ?_ | refine S.gskip rfl ?_ | refine S.y (Y.gskipU rfl) ?_); refine opsS_nil ?_; refine N.tn ?_))
            refine N.tn ⟨⟨b9, b10, ra, rc, ma, mc, ea, ec, qa, qc, qb, qd, qe, qf, M3⟩, ⟨rfl, rfl, rfl, rfl, rfl, rfl, rfl, trivial⟩, ?_, hl3⟩
            (try dsimp only); exact Go.SX.Ent.go
          · refine GQ.a ?_
            refine Q.al (fun b9 => ?_)
            refine Q.r ?_; (repeat (intro b1; refine Q.r ?_))
            repeat (first | refine D.endA ?_ | refine Q.dp rfl rfl rfl ?_ | refine Q.dy rfl rfl rfl ?_ | refine D.end_ ?_ | refine Q.endH ?_ | (refine D.e rfl rfl rfl ?_; (first | refine S.gskip1 rfl ?_ | refine S.gskip rfl ?_ | refine S.y (Y.gskipU rfl) ?_); refine opsS_nil ?_; refine N.tn ?_))
            refine D.e rfl rfl rfl ?_
            refine S.c2 rfl (RDo_spec n1 x j k o.fr M3 _ hj (by omega) (hn1.mono (hl2.trans hl3)) hN1 hoc1 hua1) ?_
            rintro _ _ ⟨qa, qc, qb, qd, qe, qf, rfl, rfl⟩
            rw [e1]
            refine Q.r ?_; (repeat (intro b1; refine Q.r ?_))
            repeat (first | refine D.endA ?_ | refine Q.dp rfl rfl rfl ?_ | refine Q.dy rfl rfl rfl ?_ | refine D.end_ ?_ | refine Q.endH ?_ | (refine D.e rfl rfl rfl ?_; (first | refine S.gskip1 rfl ?_ | refine S.gskip rfl ?_ | refine S.y (Y.gskipU rfl) ?_); refine opsS_nil ?_; refine N.tn ?_))
            refine D.e rfl rfl rfl ?_
            refine Q.r ?_; (repeat (intro b1; refine Q.r ?_))
            repeat (first | refine D.endA ?_ | refine Q.dp rfl rfl rfl ?_ | refine Q.dy rfl rfl rfl ?_ | refine D.end_ ?_ | refine Q.endH ?_ | (refine D.e rfl rfl rfl ?_; (first | refine S.gskip1 rfl ?_ | refine S.gskip rfl ?_ | refine S.y (Y.gskipU rfl) ?_); refine opsS_nil ?_; refine N.tn ?_))
            refine D.e rfl rfl rfl ?_
            refine Q.r ?_; (repeat (intro b1; refine Q.r ?_))
            repeat (first | refine D.endA ?_ | refine Q.dp rfl rfl rfl ?_ | refine Q.dy rfl rfl rfl ?_ | refine D.end_ ?_ | refine Q.endH ?_ | (refine D.e rfl rfl rfl ?_; (first | refine S.gskip1 rfl ?_ | refine S.gskip rfl ?_ | refine S.y (Y.gskipU rfl) ?_); refine opsS_nil ?_; refine N.tn ?_))
            repeat (first | refine D.endA ?_ | refine Q.dp rfl rfl rfl ?_ | refine Q.dy rfl rfl rfl ?_ | refine D.end_ ?_ | refine Q.endH ?_ | (refine D.e rfl rfl rfl ?_; (first | refine S.gskip1 rfl ?_ | refine S.gskip rfl ?_ | refine S.y (Y.gskipU rfl) ?_); refine opsS_nil ?_; refine N.tn ?_))
            refine N.tn ⟨⟨b9, b10, ra, rc, ma, mc, ea, ec, qa, qc, qb, qd, qe, qf, M3⟩, ⟨rfl, rfl, rfl, rfl, rfl, rfl, rfl, trivial⟩, ?_, hl3⟩
            (try dsimp only); exact Go.SX.Ent.go
      · refine GQ.a ?_
        refine Q.al (fun b9 => ?_)
        refine Q.r ?_; (repeat (intro b1; refine Q.r ?_))
        repeat (first | refine D.endA ?_ | refine Q.dp rfl rfl rfl ?_ | refine Q.dy rfl rfl rfl ?_ | refine D.end_ ?_ | refine Q.endH ?_ | (refine D.e rfl rfl rfl ?_; (first | refine S.gskip1 rfl ?_ | refine S.gskip rfl ?_ | refine S.y (Y.gskipU rfl) ?_); refine opsS_nil ?_; refine N.tn ?_))
        refine D.two 4 11 [99999, 0, 0, 0] [4, 9, 12, 13] (by kernel_rfl) rfl rfl rfl rfl (by kernel_rfl) (by kernel_rfl) ?_ ?_
        · refine S.cj p rfl (Plan_spec n2 M2 p j k o.fr _ hj.w (by omega) hj.ne hn2 hN2 (hT.mono hM2) hu2.kind) ?_
          rintro _ _ ⟨ra, rc, ma, mc, ea, ec, M3, rfl, hl3, rfl⟩
          rw [e2]
          refine Q.r ?_; (repeat (intro b1; refine Q.r ?_))
          repeat (first | refine D.endA ?_ | refine Q.dp rfl rfl rfl ?_ | refine Q.dy rfl rfl rfl ?_ | refine D.end_ ?_ | refine Q.endH ?_ | (refine D.e rfl rfl rfl ?_; (first | refine S.gskip1 rfl ?_ | refine S.gskip rfl ?_ | refine S.y (Y.gskipU rfl) ?_); refine opsS_nil ?_; refine N.tn ?_))
          refine D.two 9 11 [11, 12, 13] [9, 12, 13] (by kernel_rfl) rfl rfl rfl rfl (by kernel_rfl) (by kernel_rfl) ?_ ?_
          · refine S.c2 rfl (RDo_spec n1 x j k o.fr M3 _ hj (by omega) (hn1.mono (hl2.trans hl3)) hN1 hoc1 hua1) ?_
            rintro _ _ ⟨qa, qc, qb, qd, qe, qf, rfl, rfl⟩
            rw [e1]
            refine Q.r ?_; (repeat (intro b1; refine Q.r ?_))
            repeat (first | refine D.endA ?_ | refine Q.dp rfl rfl rfl ?_ | refine Q.dy rfl rfl rfl ?_ | refine D.end_ ?_ | refine Q.endH ?_ | (refine D.e rfl rfl rfl ?_; (first | refine S.gskip1 rfl ?_ | refine S.gskip rfl ?_ | refine S.y (Y.gskipU rfl) ?_); refine opsS_nil ?_; refine N.tn ?_))
            refine D.e rfl rfl rfl ?_
            refine GQ.a ?_
            refine Q.al (fun b10 => ?_)
            refine Q.r ?_; (repeat (intro b1; refine Q.r ?_))
            repeat (first | refine D.endA ?_ | refine Q.dp rfl rfl rfl ?_ | refine Q.dy rfl rfl rfl ?_ | refine D.end_ ?_ | refine Q.endH ?_ | (refine D.e rfl rfl rfl ?_; (first | refine S.gskip1 rfl ?_ | refine S.gskip rfl ?_ | refine S.y (Y.gskipU rfl) ?_); refine opsS_nil ?_; refine N.tn ?_))
            refine D.e rfl rfl rfl ?_
            refine Q.r ?_; (repeat (intro b1; refine Q.r ?_))
            repeat (first | refine D.endA ?_ | refine Q.dp rfl rfl rfl ?_ | refine Q.dy rfl rfl rfl ?_ | refine D.end_ ?_ | refine Q.endH ?_ | (refine D.e rfl rfl rfl ?_; (first | refine S.gskip1 rfl ?_ | refine S.gskip rfl ?_ | refine S.y (Y.gskipU rfl) ?_); refine opsS_nil ?_; refine N.tn ?_))
            refine D.e rfl rfl rfl ?_
            refine Q.r ?_; (repeat (intro b1; refine Q.r ?_))
            repeat (first | refine D.endA ?_ | refine Q.dp rfl rfl rfl ?_ | refine Q.dy rfl rfl rfl ?_ | refine D.end_ ?_ | refine Q.endH ?_ | (refine D.e rfl rfl rfl ?_; (first | refine S.gskip1 rfl ?_ | refine S.gskip rfl ?_ | refine S.y (Y.gskipU rfl) ?_); refine opsS_nil ?_; refine N.tn ?_))
            repeat (first | refine D.endA ?_ | refine Q.dp rfl rfl rfl ?_ | refine Q.dy rfl rfl rfl ?_ | refine D.end_ ?_ | refine Q.endH ?_ | (refine D.e rfl rfl rfl ?_; (first | refine S.gskip1 rfl ?_ | refine S.gskip rfl ?_ | refine S.y (Y.gskipU rfl) ?_); refine opsS_nil ?_; refine N.tn ?_))
            refine N.tn ⟨⟨b9, b10, ra, rc, ma, mc, ea, ec, qa, qc, qb, qd, qe, qf, M3⟩, ⟨rfl, rfl, rfl, rfl, rfl, rfl, rfl, trivial⟩, ?_, hl3⟩
            (try dsimp only); exact Go.SX.Ent.go
          · refine GQ.a ?_
            refine Q.al (fun b10 => ?_)
            refine Q.r ?_; (repeat (intro b1; refine Q.r ?_))
            repeat (first | refine D.endA ?_ | refine Q.dp rfl rfl rfl ?_ | refine Q.dy rfl rfl rfl ?_ | refine D.end_ ?_ | refine Q.endH ?_ | (refine D.e rfl rfl rfl ?_; (first | refine S.gskip1 rfl ?_ | refine S.gskip rfl ?_ | refine S.y (Y.gskipU rfl) ?_); refine opsS_nil ?_; refine N.tn ?_))
            refine D.e rfl rfl rfl ?_
            refine S.c2 rfl (RDo_spec n1 x j k o.fr M3 _ hj (by omega) (hn1.mono (hl2.trans hl3)) hN1 hoc1 hua1) ?_
            rintro _ _ ⟨qa, qc, qb, qd, qe, qf, rfl, rfl⟩
            rw [e1]
            refine Q.r ?_; (repeat (intro b1; refine Q.r ?_))
            repeat (first | refine D.endA ?_ | refine Q.dp rfl rfl rfl ?_ | refine Q.dy rfl rfl rfl ?_ | refine D.end_ ?_ | refine Q.endH ?_ | (refine D.e rfl rfl rfl ?_; (first | refine S.gskip1 rfl ?_ | refine S.gskip rfl ?_ | refine S.y (Y.gskipU rfl) ?_); refine opsS_nil ?_; refine N.tn ?_))
            refine D.e rfl rfl rfl ?_
            refine Q.r ?_; (repeat (intro b1; refine Q.r ?_))
            repeat (first | refine D.endA ?_ | refine Q.dp rfl rfl rfl ?_ | refine Q.dy rfl rfl rfl ?_ | refine D.end_ ?_ | refine Q.endH ?_ | (refine D.e rfl rfl rfl ?_; (first | refine S.gskip1 rfl ?_ | refine S.gskip rfl ?_ | refine S.y (Y.gskipU rfl) ?_); refine opsS_nil ?_; refine N.tn ?_))
            refine D.e rfl rfl rfl ?_
            refine Q.r ?_; (repeat (intro b1; refine Q.r ?_))
            repeat (first | refine D.endA ?_ | refine Q.dp rfl rfl rfl ?_ | refine Q.dy rfl rfl rfl ?_ | refine D.end_ ?_ | refine Q.endH ?_ | (refine D.e rfl rfl rfl ?_; (first | refine S.gskip1 rfl ?_ | refine S.gskip rfl ?_ | refine S.y (Y.gskipU rfl) ?_); refine opsS_nil ?_; refine N.tn ?_))
            repeat (first | refine D.endA ?_ | refine Q.dp rfl rfl rfl ?_ | refine Q.dy rfl rfl rfl ?_ | refine D.end_ ?_ | refine Q.endH ?_ | (refine D.e rfl rfl rfl ?_; (first | refine S.gskip1 rfl ?_ | refine S.gskip rfl ?_ | refine S.y (Y.gskipU rfl) ?_); refine opsS_nil ?_; refine N.tn ?_))
            refine N.tn ⟨⟨b9, b10, ra, rc, ma, mc, ea, ec, qa, qc, qb, qd, qe, qf, M3⟩, ⟨rfl, rfl, rfl, rfl, rfl, rfl, rfl, trivial⟩, ?_, hl3⟩
            (try dsimp only); exact Go.SX.Ent.go
        · refine GQ.a ?_
          refine Q.al (fun b10 => ?_)
          refine Q.r ?_; (repeat (intro b1; refine Q.r ?_))
          repeat (first | refine D.endA ?_ | refine Q.dp rfl rfl rfl ?_ | refine Q.dy rfl rfl rfl ?_ | refine D.end_ ?_ | refine Q.endH ?_ | (refine D.e rfl rfl rfl ?_; (first | refine S.gskip1 rfl ?_ | refine S.gskip rfl ?_ | refine S.y (Y.gskipU rfl) ?_); refine opsS_nil ?_; refine N.tn ?_))
          refine D.e rfl rfl rfl ?_
          refine S.cj p rfl (Plan_spec n2 M2 p j k o.fr _ hj.w (by omega) hj.ne hn2 hN2 (hT.mono hM2) hu2.kind) ?_
          rintro _ _ ⟨ra, rc, ma, mc, ea, ec, M3, rfl, hl3, rfl⟩
          rw [e2]
          refine Q.r ?_; (repeat (intro b1; refine Q.r ?_))
          repeat (first | refine D.endA ?_ | refine Q.dp rfl rfl rfl ?_ | refine Q.dy rfl rfl rfl ?_ | refine D.end_ ?_ | refine Q.endH ?_ | (refine D.e rfl rfl rfl ?_; (first | refine S.gskip1 rfl ?_ | refine S.gskip rfl ?_ | refine S.y (Y.gskipU rfl) ?_); refine opsS_nil ?_; refine N.tn ?_))
          refine D.e rfl rfl rfl ?_
          refine S.c2 rfl (RDo_spec n1 x j k o.fr M3 _ hj (by omega) (hn1.mono (hl2.trans hl3)) hN1 hoc1 hua1) ?_
          rintro _ _ ⟨qa, qc, qb, qd, qe, qf, rfl, rfl⟩
          rw [e1]
          refine Q.r ?_; (repeat (intro b1; refine Q.r ?_))
          repeat (first | refine D.endA ?_ | refine Q.dp rfl rfl rfl ?_ | refine Q.dy rfl rfl rfl ?_ | refine D.end_ ?_ | refine Q.endH ?_ | (refine D.e rfl rfl rfl ?_; (first | refine S.gskip1 rfl ?_ | refine S.gskip rfl ?_ | refine S.y (Y.gskipU rfl) ?_); refine opsS_nil ?_; refine N.tn ?_))
          refine D.e rfl rfl rfl ?_
          refine Q.r ?_; (repeat (intro b1; refine Q.r ?_))
          repeat (first | refine D.endA ?_ | refine Q.dp rfl rfl rfl ?_ | refine Q.dy rfl rfl rfl ?_ | refine D.end_ ?_ | refine Q.endH ?_ | (refine D.e rfl rfl rfl ?_; (first | refine S.gskip1 rfl ?_ | refine S.gskip rfl ?_ | refine S.y (Y.gskipU rfl) ?_); refine opsS_nil ?_; refine N.tn ?_))
          refine D.e rfl rfl rfl ?_
          refine Q.r ?_; (repeat (intro b1; refine Q.r ?_))
          repeat (first | refine D.endA ?_ | refine Q.dp rfl rfl rfl ?_ | refine Q.dy rfl rfl rfl ?_ | refine D.end_ ?_ | refine Q.endH ?_ | (refine D.e rfl rfl rfl ?_; (first | refine S.gskip1 rfl ?_ | refine S.gskip rfl ?_ | refine S.y (Y.gskipU rfl) ?_); refine opsS_nil ?_; refine N.tn ?_))
          repeat (first | refine D.endA ?_ | refine Q.dp rfl rfl rfl ?_ | refine Q.dy rfl rfl rfl ?_ | refine D.end_ ?_ | refine Q.endH ?_ | (refine D.e rfl rfl rfl ?_; (first | refine S.gskip1 rfl ?_ | refine S.gskip rfl ?_ | refine S.y (Y.gskipU rfl) ?_); refine opsS_nil ?_; refine N.tn ?_))
          refine N.tn ⟨⟨b9, b10, ra, rc, ma, mc, ea, ec, qa, qc, qb, qd, qe, qf, M3⟩, ⟨rfl, rfl, rfl, rfl, rfl, rfl, rfl, trivial⟩, ?_, hl3⟩
          (try dsimp only); exact Go.SX.Ent.go
      · refine GQ.a ?_
        refine Q.al (fun b10 => ?_)
        refine Q.r ?_; (repeat (intro b1; refine Q.r ?_))
        repeat (first | refine D.endA ?_ | refine Q.dp rfl rfl rfl ?_ | refine Q.dy rfl rfl rfl ?_ | refine D.end_ ?_ | refine Q.endH ?_ | (refine D.e rfl rfl rfl ?_; (first | refine S.gskip1 rfl ?_ | refine S.gskip rfl ?_ | refine S.y (Y.gskipU rfl) ?_); refine opsS_nil ?_; refine N.tn ?_))
        refine D.two 4 10 [99999, 0, 0, 0] [4, 9, 12, 13] (by kernel_rfl) rfl rfl rfl rfl (by kernel_rfl) (by kernel_rfl) ?_ ?_
        · refine S.cj p rfl (Plan_spec n2 M2 p j k o.fr _ hj.w (by omega) hj.ne hn2 hN2 (hT.mono hM2) hu2.kind) ?_
          rintro _ _ ⟨ra, rc, ma, mc, ea, ec, M3, rfl, hl3, rfl⟩
          rw [e2]
          refine Q.r ?_; (repeat (intro b1; refine Q.r ?_))
          repeat (first | refine D.endA ?_ | refine Q.dp rfl rfl rfl ?_ | refine Q.dy rfl rfl rfl ?_ | refine D.end_ ?_ | refine Q.endH ?_ | (refine D.e rfl rfl rfl ?_; (first | refine S.gskip1 rfl ?_ | refine S.gskip rfl ?_ | refine S.y (Y.gskipU rfl) ?_); refine opsS_nil ?_; refine N.tn ?_))
          refine D.two 9 10 [10, 12, 13] [9, 12, 13] (by kernel_rfl) rfl rfl rfl rfl (by kernel_rfl) (by kernel_rfl) ?_ ?_
          · refine S.c2 rfl (RDo_spec n1 x j k o.fr M3 _ hj (by omega) (hn1.mono (hl2.trans hl3)) hN1 hoc1 hua1) ?_
            rintro _ _ ⟨qa, qc, qb, qd, qe, qf, rfl, rfl⟩
            rw [e1]
            refine Q.r ?_; (repeat (intro b1; refine Q.r ?_))
            repeat (first | refine D.endA ?_ | refine Q.dp rfl rfl rfl ?_ | refine Q.dy rfl rfl rfl ?_ | refine D.end_ ?_ | refine Q.endH ?_ | (refine D.e rfl rfl rfl ?_; (first | refine S.gskip1 rfl ?_ | refine S.gskip rfl ?_ | refine S.y (Y.gskipU rfl) ?_); refine opsS_nil ?_; refine N.tn ?_))
            refine D.e rfl rfl rfl ?_
            refine GQ.a ?_
            refine Q.al (fun b9 => ?_)
            refine Q.r ?_; (repeat (intro b1; refine Q.r ?_))
            repeat (first | refine D.endA ?_ | refine Q.dp rfl rfl rfl ?_ | refine Q.dy rfl rfl rfl ?_ | refine D.end_ ?_ | refine Q.endH ?_ | (refine D.e rfl rfl rfl ?_; (first | refine S.gskip1 rfl ?_ | refine S.gskip rfl ?_ | refine S.y (Y.gskipU rfl) ?_); refine opsS_nil ?_; refine N.tn ?_))
            refine D.e rfl rfl rfl ?_
            refine Q.r ?_; (repeat (intro b1; refine Q.r ?_))
            repeat (first | refine D.endA ?_ | refine Q.dp rfl rfl rfl ?_ | refine Q.dy rfl rfl rfl ?_ | refine D.end_ ?_ | refine Q.endH ?_ | (refine D.e rfl rfl rfl ?_; (first | refine S.gskip1 rfl ?_ | refine S.gskip rfl ?_ | refine S.y (Y.gskipU rfl) ?_); refine opsS_nil ?_; refine N.tn ?_))
            refine D.e rfl rfl rfl ?_
            refine Q.r ?_; (repeat (intro b1; refine Q.r ?_))
            repeat (first | refine D.endA ?_ | refine Q.dp rfl rfl rfl ?_ | refine Q.dy rfl rfl rfl ?_ | refine D.end_ ?_ | refine Q.endH ?_ | (refine D.e rfl rfl rfl ?_; (first | refine S.gskip1 rfl ?_ | refine S.gskip rfl ?_ | refine S.y (Y.gskipU rfl) ?_); refine opsS_nil ?_; refine N.tn ?_))
            repeat (first | refine D.endA ?_ | refine Q.dp rfl rfl rfl ?_ | refine Q.dy rfl rfl rfl ?_ | refine D.end_ ?_ | refine Q.endH ?_ | (refine D.e rfl rfl rfl ?_; (first | refine S.gskip1 rfl ?_ | refine S.gskip rfl ?_ | refine S.y (Y.gskipU rfl) ?_); refine opsS_nil ?_; refine N.tn ?_))
            refine N.tn ⟨⟨b9, b10, ra, rc, ma, mc, ea, ec, qa, qc, qb, qd, qe, qf, M3⟩, ⟨rfl, rfl, rfl, rfl, rfl, rfl, rfl, trivial⟩, ?_, hl3⟩
            (try dsimp only); exact Go.SX.Ent.go
          · refine GQ.a ?_
            refine Q.al (fun b9 => ?_)
            refine Q.r ?_; (repeat (intro b1; refine Q.r ?_))
            repeat (first | refine D.endA ?_ | refine Q.dp rfl rfl rfl ?_ | refine Q.dy rfl rfl rfl ?_ | refine D.end_ ?_ | refine Q.endH ?_ | (refine D.e rfl rfl rfl ?_; (first | refine S.gskip1 rfl ?_ | refine S.gskip rfl ?_ | refine S.y (Y.gskipU rfl) ?_); refine opsS_nil ?_; refine N.tn ?_))
            refine D.e rfl rfl rfl ?_
            refine S.c2 rfl (RDo_spec n1 x j k o.fr M3 _ hj (by omega) (hn1.mono (hl2.trans hl3)) hN1 hoc1 hua1) ?_
            rintro _ _ ⟨qa, qc, qb, qd, qe, qf, rfl, rfl⟩
            rw [e1]
            refine Q.r ?_; (repeat (intro b1; refine Q.r ?_))
            repeat (first | refine D.endA ?_ | refine Q.dp rfl rfl rfl ?_ | refine Q.dy rfl rfl rfl ?_ | refine D.end_ ?_ | refine Q.endH ?_ | (refine D.e rfl rfl rfl ?_; (first | refine S.gskip1 rfl ?_ | refine S.gskip rfl ?_ | refine S.y (Y.gskipU rfl) ?_); refine opsS_nil ?_; refine N.tn ?_))
            refine D.e rfl rfl rfl ?_
            refine Q.r ?_; (repeat (intro b1; refine Q.r ?_))
            repeat (first | refine D.endA ?_ | refine Q.dp rfl rfl rfl ?_ | refine Q.dy rfl rfl rfl ?_ | refine D.end_ ?_ | refine Q.endH ?_ | (refine D.e rfl rfl rfl ?_; (first | refine S.gskip1 rfl ?_ | refine S.gskip rfl ?_ | refine S.y (Y.gskipU rfl) ?_); refine opsS_nil ?_; refine N.tn ?_))
            refine D.e rfl rfl rfl ?_
            refine Q.r ?_; (repeat (intro b1; refine Q.r ?_))
            repeat (first | refine D.endA ?_ | refine Q.dp rfl rfl rfl ?_ | refine Q.dy rfl rfl rfl ?_ | refine D.end_ ?_ | refine Q.endH ?_ | (refine D.e rfl rfl rfl ?_; (first | refine S.gskip1 rfl ?_ | refine S.gskip rfl ?_ | refine S.y (Y.gskipU rfl) ?_); refine opsS_nil ?_; refine N.tn ?_))
            repeat (first | refine D.endA ?_ | refine Q.dp rfl rfl rfl ?_ | refine Q.dy rfl rfl rfl ?_ | refine D.end_ ?_ | refine Q.endH ?_ | (refine D.e rfl rfl rfl ?_; (first | refine S.gskip1 rfl ?_ | refine S.gskip rfl ?_ | refine S.y (Y.gskipU rfl) ?_); refine opsS_nil ?_; refine N.tn ?_))
            refine N.tn ⟨⟨b9, b10, ra, rc, ma, mc, ea, ec, qa, qc, qb, qd, qe, qf, M3⟩, ⟨rfl, rfl, rfl, rfl, rfl, rfl, rfl, trivial⟩, ?_, hl3⟩
            (try dsimp only); exact Go.SX.Ent.go
        · refine GQ.a ?_
          refine Q.al (fun b9 => ?_)
          refine Q.r ?_; (repeat (intro b1; refine Q.r ?_))
          repeat (first | refine D.endA ?_ | refine Q.dp rfl rfl rfl ?_ | refine Q.dy rfl rfl rfl ?_ | refine D.end_ ?_ | refine Q.endH ?_ | (refine D.e rfl rfl rfl ?_; (first | refine S.gskip1 rfl ?_ | refine S.gskip rfl ?_ | refine S.y (Y.gskipU rfl) ?_); refine opsS_nil ?_; refine N.tn ?_))
          refine D.e rfl rfl rfl ?_
          refine S.cj p rfl (Plan_spec n2 M2 p j k o.fr _ hj.w (by omega) hj.ne hn2 hN2 (hT.mono hM2) hu2.kind) ?_
          rintro _ _ ⟨ra, rc, ma, mc, ea, ec, M3, rfl, hl3, rfl⟩
          rw [e2]
          refine Q.r ?_; (repeat (intro b1; refine Q.r ?_))
          repeat (first | refine D.endA ?_ | refine Q.dp rfl rfl rfl ?_ | refine Q.dy rfl rfl rfl ?_ | refine D.end_ ?_ | refine Q.endH ?_ | (refine D.e rfl rfl rfl ?_; (first | refine S.gskip1 rfl ?_ | refine S.gskip rfl ?_ | refine S.y (Y.gskipU rfl) ?_); refine opsS_nil ?_; refine N.tn ?_))
          refine D.e rfl rfl rfl ?_
          refine S.c2 rfl (RDo_spec n1 x j k o.fr M3 _ hj (by omega) (hn1.mono (hl2.trans hl3)) hN1 hoc1 hua1) ?_
          rintro _ _ ⟨qa, qc, qb, qd, qe, qf, rfl, rfl⟩
          rw [e1]
          refine Q.r ?_; (repeat (intro b1; refine Q.r ?_))
          repeat (first | refine D.endA ?_ | refine Q.dp rfl rfl rfl ?_ | refine Q.dy rfl rfl rfl ?_ | refine D.end_ ?_ | refine Q.endH ?_ | (refine D.e rfl rfl rfl ?_; (first | refine S.gskip1 rfl ?_ | refine S.gskip rfl ?_ | refine S.y (Y.gskipU rfl) ?_); refine opsS_nil ?_; refine N.tn ?_))
          refine D.e rfl rfl rfl ?_
          refine Q.r ?_; (repeat (intro b1; refine Q.r ?_))
          repeat (first | refine D.endA ?_ | refine Q.dp rfl rfl rfl ?_ | refine Q.dy rfl rfl rfl ?_ | refine D.end_ ?_ | refine Q.endH ?_ | (refine D.e rfl rfl rfl ?_; (first | refine S.gskip1 rfl ?_ | refine S.gskip rfl ?_ | refine S.y (Y.gskipU rfl) ?_); refine opsS_nil ?_; refine N.tn ?_))
          refine D.e rfl rfl rfl ?_
          refine Q.r ?_; (repeat (intro b1; refine Q.r ?_))
          repeat (first | refine D.endA ?_ | refine Q.dp rfl rfl rfl ?_ | refine Q.dy rfl rfl rfl ?_ | refine D.end_ ?_ | refine Q.endH ?_ | (refine D.e rfl rfl rfl ?_; (first | refine S.gskip1 rfl ?_ | refine S.gskip rfl ?_ | refine S.y (Y.gskipU rfl) ?_); refine opsS_nil ?_; refine N.tn ?_))
          repeat (first | refine D.endA ?_ | refine Q.dp rfl rfl rfl ?_ | refine Q.dy rfl rfl rfl ?_ | refine D.end_ ?_ | refine Q.endH ?_ | (refine D.e rfl rfl rfl ?_; (first | refine S.gskip1 rfl ?_ | refine S.gskip rfl ?_ | refine S.y (Y.gskipU rfl) ?_); refine opsS_nil ?_; refine N.tn ?_))
          refine N.tn ⟨⟨b9, b10, ra, rc, ma, mc, ea, ec, qa, qc, qb, qd, qe, qf, M3⟩, ⟨rfl, rfl, rfl, rfl, rfl, rfl, rfl, trivial⟩, ?_, hl3⟩
          (try dsimp only); exact Go.SX.Ent.go
    rintro ⟨b9, b10, ra, rc, ma, mc, ea, ec, qa, qc, qb, qd, qe, qf, M3⟩ hl3
    dsimp only at hl3 ⊢
    refine swp_abs ra (fun M4 hl4 hs4 => ?_)
    refine swp_abs ma (fun M5 hl5 hs5 => ?_)
    refine swp_abs ea (fun M6 hl6 hs6 => ?_)
    refine swp_abs qa (fun M7 hl7 hs7 => ?_)
    refine swp_abs qb (fun M8 hl8 hs8 => ?_)
    refine swp_abs qe (fun M9 hl9 hs9 => ?_)
    have hl59 := hl6.trans (hl7.trans (hl8.trans hl9))
    have hl49 := hl5.trans hl59
    have hl39 := hl4.trans hl49
    refine swp_jm p hl39 ?_
    refine Q.r ?_; (repeat (intro b1; refine Q.r ?_))
    have hlr : pl.rec_.length ≤ 1 := by rcases hone with h | ⟨r, h, _⟩ <;> (rw [h]; simp)
    have hl93 : leM M2 M9 := hl3.trans hl39
    have hn19 : okN M9 n1 := hn1.mono (hl2.trans hl93)
    have hn29 : okN M9 n2 := hn2.mono hl93
    refine Q.dgo [false, false, true, true, true, true] [1, 3, 8] [] [0, 2, 1, 3, 4, 5, 6, 7, 8, 9, 10] ?_
    refine Q.rd ?_; (repeat (intro b1; refine Q.rd ?_))
    refine D.e rfl rfl rfl ?_
    refine S.cr rfl (planL_spec ra rc pl.rec_.length pl.mail.length pl.els.length (pl.rec_.map (liftN n2)) ma mc (pl.mail.map nvm) ea ec (pl.els.map nvm) _ (List.length_map ..).symm (List.length_map ..).symm (List.length_map ..).symm (rec_rdS (M := M9) (hs4.mono hl49)) (mail_rdS (M := M9) (hs5.mono hl59)) (mail_rdS (M := M9) (hs6.mono (hl7.trans (hl8.trans hl9)))) hlr hpl.1 hpl.2.1) ?_
    rintro _ _ ⟨a1, c1', a2, c2, a3, c3, rfl, rfl⟩
    refine opsS_abs a1 (fun Ma hla hsa => ?_)
    refine opsS_abs a2 (fun Mb hlb hsb => ?_)
    refine opsS_abs a3 (fun Mc hlc hsc => ?_)
    have hl9c : leM M9 Mc := hla.trans (hlb.trans hlc)
    refine opsS_jm p hl9c ?_
    have hn1c : okN Mc n1 := hn19.mono hl9c
    have hn2c : okN Mc n2 := hn29.mono hl9c
    have hrr : ∀ r ∈ pl.rec_, (liftN n2 r).abs = r ∧ (liftQ n1 r).abs = r := fun r hr => by
      rcases hone with h | ⟨r', h, _, _, hrt, hsh⟩
      · rw [h] at hr; cases hr
      · rw [h] at hr
        obtain rfl := List.mem_singleton.1 hr
        have := rec_ok he21 hua1 hrt (f := o.fr) (by rw [he1]; exact hsh)
        exact ⟨this.e1, this.e2⟩
    refine Q.r ?_; (repeat (intro b1; refine Q.r ?_))
    refine Q.rd ?_; (repeat (intro b1; refine Q.rd ?_))
    refine D.e rfl rfl rfl ?_
    refine S.cr rfl (SamePlanL_spec a1 qa c1' qc pl.rec_.length pl.mail.length pl.els.length (pl.rec_.map (liftN n2)) (pl.rec_.map (liftQ n1)) a2 qb a3 qe c2 qd c3 qf (pl.mail.map nvm) (pl.mail.map nvm) (pl.els.map nvm) (pl.els.map nvm) _
      (recs_rd (M := Mc) (g := liftN n2) (hsa.mono (hlb.trans hlc)) (fun r => ⟨hn2c.lift r, hN2.lift r⟩))
      (rec_rd (M := Mc) (g := liftQ n1) (hs7.mono (hl8.trans (hl9.trans hl9c))) (fun r => ⟨hn1c.liftQ r, hN1.liftQ r⟩))
      (mails_rd (M := Mc) (hsb.mono hlc)) (mail_rd (M := Mc) (hs8.mono (hl9.trans hl9c))) (mails_rd (M := Mc) hsc) (mail_rd (M := Mc) (hs9.mono hl9c))
      (List.length_map ..).symm (List.length_map ..).symm (List.length_map ..).symm hlr hpl.1 hpl.2.1
      (by rw [List.map_map, List.map_map]; exact List.map_congr_left fun r hr => by show (liftN n2 r).abs = (liftQ n1 r).abs; rw [(hrr r hr).1, (hrr r hr).2]) rfl rfl) ?_
    rintro _ _ ⟨rfl, rfl⟩
    refine Q.r ?_; (repeat (intro b1; refine Q.r ?_))
    refine Q.rd ?_; (repeat (intro b1; refine Q.rd ?_))
    refine D.e rfl rfl rfl ?_
    refine S.guard rfl ?_
    refine S.cr (args := [n2.val, n1.val]) rfl (Same12_spec n2 n1 _ hn2c.rd hn1c.rd hN2 hN1 he21) ?_
    rintro _ _ ⟨rfl, rfl⟩
    refine Q.r ?_; (repeat (intro b1; refine Q.r ?_))
    refine Q.rd ?_; (repeat (intro b1; refine Q.rd ?_))
    refine Q.r ?_; (repeat (intro b1; refine Q.r ?_))
    have hlMc : leM M Mc := hM2.trans (hl93.trans hl9c)
    have hs4c := hs4.mono (hl49.trans hl9c)
    have hs7c := hs7.mono (hl8.trans (hl9.trans hl9c))
    clear hs4 hs5 hs6 hs7 hs8 hs9 hsa hsb hsc
    refine swp_cutB (σ := JS × (Nat → Option Obj)) (fun _ => []) (fun s => jurH s.2 p s.1 :: rjH x s.1 :: roM s.2 :: L) (fun s => s.1 = stepS j o.fr o.n.abs.few o.w false ∧ leM M s.2) ?_ ?_
    · refine swp_loop (σ := Nat × JS × (Nat → Option Obj)) (fun s => [(0, ptrJ p), (1, .pointer (some ⟨x, 0, none⟩)), (5, .pointer (some ⟨bo, 0, none⟩)), (9, .pointer (some ⟨b9, 0, none⟩)), (10, .pointer (some ⟨b10, 0, none⟩)), (50, .int .i64 pl.rec_.length), (51, .int .i64 s.1)])
        (fun s => pt b9 (cl [.slice ra pl.rec_.length rc, .slice ma pl.mail.length mc, .slice ea pl.els.length ec] 55) :: pt b10 (cl [.slice qa pl.rec_.length qc, .slice qb pl.mail.length qd, .slice qe pl.els.length qf] 97) :: pt bo (cl ({ o with r := false } : EO).cells 38) :: jurH s.2.2 p s.2.1 :: rjH x s.2.1 :: roM s.2.2 :: L)
        (fun s => s.1 ≤ pl.rec_.length ∧ ((s.1 = 0 ∧ s.2 = (j, Mc)) ∨ (s.1 = 1 ∧ s.2.1 = stepS j o.fr o.n.abs.few o.w false ∧ leM M s.2.2))) (fun s => pl.rec_.length - s.1) (0, j, Mc) ⟨rfl, rfl, rfl, rfl, rfl, rfl, rfl, trivial⟩ (by exact Go.SX.Ent.go) ⟨Nat.zero_le _, .inl ⟨rfl, rfl⟩⟩ ?_
      rintro ⟨q, j2, M6⟩ ⟨hq1, hq2⟩
      dsimp only at hq1 hq2 ⊢
      by_cases hqt : q < pl.rec_.length
      · have hq0 : q = 0 := by omega
        subst hq0
        rcases hq2 with ⟨_, hq2⟩ | ⟨h, _⟩
        case inr => cases h
        cases hq2
        cases hw : o.w with
        | false =>
          refine Q.r ?_; (repeat (intro b1; refine Q.r ?_))
          refine ⟨(1, j, Mc), ⟨rfl, rfl, rfl, rfl, rfl, rfl, rfl, trivial⟩, ?_, ⟨hqt, .inr ⟨rfl, hstf.symm, hlMc⟩⟩, by dsimp only; omega⟩
          dsimp only
          exact Go.SX.Ent.go
        | true =>
          rcases hone with h | ⟨r, h, hE, htx, hrt, hsh⟩
          · rw [h] at hqt; cases hqt
          obtain ⟨br, or, hra, cr⟩ := SlM.cm (g := fun r => (liftN n2 r).cells) (k := 0) (x := r) (fun _ => rfl) hs4c (by rw [h]; rfl) rfl
          obtain ⟨bq, oq, hqa, cq⟩ := SlM.cm (g := fun r => (liftQ n1 r).cells) (k := 0) (x := r) (fun _ => rfl) hs7c (by rw [h]; rfl) rfl
          rw [hra, hqa]
          have hro := rec_ok he21 hua1 hrt (f := o.fr) (by rw [he1]; exact hsh)
          have hcap := capQ hoc1 hc1.ov r
          refine Q.r ?_; (repeat (intro b1; refine Q.r ?_))
          refine S.cj p rfl (Apply_spec' (liftN n2 r) Mc p j k _ hj.w (by omega) (hn2c.lift r) (hN2.lift r) (hT.mono hlMc) hro.n2) ?_
          rintro _ _ ⟨M7, rfl, hl7', rfl⟩
          rw [hro.e1, hE]
          have cq7 := cq.mono hl7'
          refine Q.r ?_; (repeat (intro b1; refine Q.r ?_))
          refine S.c2 rfl (RApp_spec (liftQ n1 r) x j k M7 _ hj (by omega) ((hn1c.liftQ r).mono hl7') (hN1.liftQ r) hcap.1 hcap.2 hro.u1) ?_
          rintro _ _ ⟨rfl, rfl⟩
          rw [hro.e2, hE]
          refine Q.r ?_; (repeat (intro b1; refine Q.r ?_))
          refine ⟨(1, appS j r, M7), ⟨rfl, rfl, rfl, rfl, rfl, rfl, rfl, trivial⟩, ?_, ⟨hqt, .inr ⟨rfl, by dsimp only; rw [hstw, h, foldl_one], hlMc.trans hl7'⟩⟩, by dsimp only; omega⟩
          dsimp only
          exact Go.SX.Ent.go
      · refine Q.r ?_; (repeat (intro b1; refine Q.r ?_))
        refine ⟨(j2, M6), trivial, by exact Go.SX.Ent.go, ?_⟩
        dsimp only
        rcases hq2 with ⟨h0, hq2⟩ | ⟨_, hq2⟩
        · cases hq2
          refine ⟨?_, hlMc⟩
          have hr0 : pl.rec_ = [] := List.eq_nil_of_length_eq_zero (by omega)
          cases hw : o.w with
          | false => exact hstf.symm
          | true => rw [hstw, hr0]; rfl
        · exact hq2
    · rintro ⟨j2, M6⟩ ⟨rfl, hl6⟩
      dsimp only at hl6 ⊢
      refine Q.r ?_; (repeat (intro b1; refine Q.r ?_))
      exact N.r1 (RV.tmp rfl RV.nil) (by exact Go.SX.Ent.go) ⟨M6, rfl, hl6, rfl⟩
end Go.Proofs.YtjidejcehmamkaaGreatDoor
namespace Go.Proofs.YtjidejcehmamkaaGreatDoor
open Go Go.SX
attribute [local irreducible] swp opsS thenS blockS retS CallsS St Ent YieldS anyS drawS
theorem JOW.zero {dim : Int} (h1 : 1 ≤ dim) (h2 : dim ≤ 8) : JOW ⟨⟨dim, [], [], 0⟩, [], []⟩ 0 :=
  ⟨⟨⟨h1, h2, Nat.le_refl _, (fun i hi => by cases hi), Nat.le_refl _, (fun c hc => by cases hc)⟩, by simp [keysOK], by simp [keysOK]⟩, by simp [keysOK], by simp [keysOK], (fun t s h => by cases h), Int.le_refl _, (fun c hc => by cases hc), (fun i hi => by cases hi), Nat.le_refl _, Nat.le_refl _⟩
end Go.Proofs.YtjidejcehmamkaaGreatDoor
namespace Go.Proofs.YtjidejcehmamkaaGreatDoor
open Go Go.SX
attribute [local irreducible] swp opsS thenS blockS retS CallsS St Ent YieldS anyS drawS
end Go.Proofs.YtjidejcehmamkaaGreatDoor
namespace Go.Proofs.YtjidejcehmamkaaGreatDoor
open Go Go.SX
attribute [local irreducible] swp opsS thenS blockS retS CallsS St Ent YieldS anyS drawS
attribute [local irreducible] opsI
theorem KeysU_spec {α : Type} (rr : α → Value) (bm b : Nat) (m : List (Int × α)) (A : List HP) : SeqS Tryz.prog 163 [.pointer (some ⟨bm, 0, none⟩)] U64 m.length (fun ks => ks.Perm (m.map (·.1)))
    (pt bm (cl [.map (some b)] 81) :: mpO U64 rr b m :: A) (mpO U64 rr b m :: A) := by
  intro l J hJ
  refine CallsS.of_body Tryz.func163 rfl rfl rfl ?_
  refine Q.r ?_; (repeat (intro b1; refine Q.r ?_))
  refine S.rg rfl (fun r => ?_)
  refine Q.r ?_; (repeat (intro b1; refine Q.r ?_))
  refine swp_loop (σ := List Nat) (fun vis => [(0, .func (.yield l) #[] #[]), (5, .pointer (some ⟨r, 0, none⟩))])
    (fun vis => J (vis.filterMap fun i => (m[i]?).map (·.1)) :: itO U64 rr b r m vis :: A) (fun vis => vis.Nodup ∧ ∀ i ∈ vis, i < m.length) (fun vis => m.length - vis.length) [] ⟨rfl, rfl, trivial⟩ (by simp only [List.filterMap_nil]; exact Go.SX.Ent.go) ⟨by simp, by simp⟩ ?_
  rintro vis ⟨hv1, hv2⟩
  refine Q.r ?_; (repeat (intro b1; refine Q.r ?_))
  refine S.nx rfl (fun hend => ?_) (fun i p hp hi => ?_)
  · refine Q.r ?_; (repeat (intro b1; refine Q.r ?_))
    exact N.n0 RV.nil (Ent.cons itO_map) ⟨_, vis_map _ hv1 hv2 hend, rfl⟩
  · have hil : i < m.length := (List.getElem?_eq_some_iff.1 hp).1
    obtain ⟨hm1, hm2, hm3⟩ := vis_more hv1 hv2 hil hi
    have hvl : (vis.filterMap fun i => (m[i]?).map (·.1)).length ≤ vis.length := List.length_filterMap_le _ _
    have happ : ((vis ++ [i]).filterMap fun i => (m[i]?).map (·.1)) = (vis.filterMap fun i => (m[i]?).map (·.1)) ++ [p.1] := by
      rw [List.filterMap_append]; simp [hp]
    refine Q.r ?_; (repeat (intro b1; refine Q.r ?_))
    refine S.y (Y.en rfl hp) ?_
    refine S.y (Y.ext rfl rfl) ?_
    refine S.y (Y.as rfl) ?_
    refine opsS_nil ?_
    refine N.tn ?_
    refine swp_seq ?_
    refine swp_regionI ?_
    refine opsI_one (fun _ h => by cases h) rfl ?_
    refine Q.r ?_; (repeat (intro b1; refine Q.r ?_))
    refine opsI_one (fun _ h => by cases h) rfl ?_
    refine Q.r ?_; (repeat (intro b1; refine Q.r ?_))
    refine opsI_yield rfl rfl ((hJ _ p.1 (by omega)).frame (R := _)) ?_
    refine opsI_one (fun _ h => by cases h) rfl ?_
    refine Q.r ?_; (repeat (intro b1; refine Q.r ?_))
    refine opsI_nil ?_
    refine Q.r ?_; (repeat (intro b1; refine Q.r ?_))
    refine ⟨vis ++ [i], ⟨rfl, rfl, trivial⟩, ?_, ⟨hm1, hm2⟩, by simp; omega⟩
    rw [happ]
    exact Go.SX.Ent.go
theorem MapKeysU_spec (mo : Option Nat) (L : List HP) : CallsS Tryz.prog 124 [.map mo] L
    (fun v L' => ∃ bm, v = .func (.func 163) #[] [.pointer (some ⟨bm, 0, none⟩)].toArray ∧ L' = pt bm (cl [.map mo] 81) :: L) := by
  refine CallsS.of_body Tryz.func124 rfl rfl rfl ?_
  refine Q.r ?_; (repeat (intro b1; refine Q.r ?_))
  refine S.y (Y.mf rfl rfl) ?_
  refine Q.r ?_; (repeat (intro b1; refine Q.r ?_))
  exact N.r1 (RV.tmp rfl RV.nil) (Ent.refl _) ⟨_, rfl, rfl⟩
theorem JFin_spec (M : Nat → Option Obj) (p : Nat) (j : JS) (L : List HP) (hn : j.done.length ≤ 1000000) :
    CallsS Tryz.prog 56 [ptrJ p] (jurH M p j :: L) (fun r L' => ∃ a c, r = .slice a j.done.length c ∧ L' = slO 30 1 a j.done.length c ((sortL (j.done.map (·.1))).map U64) :: jurH M p j :: L) := by
  refine calls_jur fun v mp md self ps hq => ?_
  refine CallsS.of_body Tryz.func56 rfl rfl rfl ?_
  refine Q.r ?_; (repeat (intro b1; refine Q.r ?_))
  refine S.cr rfl (MapKeysU_spec (some md) _) ?_
  rintro _ _ ⟨bm, rfl, rfl⟩
  refine Q.r ?_; (repeat (intro b1; refine Q.r ?_))
  refine opsS_ent (L' := pt bm (cl [.map (some md)] 81) :: jD md j.done :: jP p v self j.v.dim mp md :: vaultH v j.v :: jT mp ps :: L) (by exact Go.SX.Ent.go) ?_
  have hs := KeysU_spec U64 bm md j.done (jP p v self j.v.dim mp md :: vaultH v j.v :: jT mp ps :: L)
  refine S.cr rfl (Sorted_spec _ _ (j.done.map (·.1)) _ _ (by rw [List.length_map]; omega) (by rw [List.length_map]; exact hs)) ?_
  rintro _ _ ⟨a, c, rfl, rfl⟩
  refine Q.r ?_; (repeat (intro b1; refine Q.r ?_))
  rw [List.length_map]
  refine N.r1 (RV.tmp rfl RV.nil) (Ent.cons ?_) ⟨a, c, rfl, rfl⟩
  refine Ent.trans (jclose (p := p) (v := v) (sf := self) (dim := j.v.dim) (mp := mp) (md := md) (j := j) (ps := ps) hq rfl) ?_
  exact Go.SX.Ent.go
theorem JIntentsS_spec (M : Nat → Option Obj) (p : Nat) (j : JS) (n : Nat) (L : List HP) (hw : WF j.v n) (hn : n ≤ 10000) :
    CallsS Tryz.prog 10 [ptrJ p] (jurH M p j :: roM M :: L) (fun r L' => ∃ (a : Option Addr) (c : Nat) (es : List IV) (M' : Nat → Option Obj), r = .slice a es.length c ∧ leM M M' ∧ SlM M' a es.length 3 (es.flatMap IV.cells) ∧ (∀ e ∈ es, okI M' e) ∧ (es.map IV.abs).Perm j.v.its ∧ (es.map (·.txn)).Pairwise (· < ·) ∧ L' = jurH M' p j :: roM M' :: L) := by
  refine calls_jur fun v mp md self ps hq => ?_
  refine CallsS.of_body Tryz.func10 rfl rfl rfl ?_
  refine Q.r ?_; (repeat (intro b1; refine Q.r ?_))
  refine S.cr rfl (vaultOf_spec p v self j.v.dim mp md _) ?_
  rintro _ _ ⟨rfl, rfl⟩
  refine Q.r ?_; (repeat (intro b1; refine Q.r ?_))
  refine S.cv v rfl (IntentsO_spec v j.v n _ hw hn) ?_
  rintro _ _ ⟨a, c, es, rfl, hp, hs, rfl⟩
  refine opsS_abs a (fun M1 hl1 hs1 => ?_)
  refine opsS_absI es (fun M2 hl2 hs2 => ?_)
  refine Q.r ?_; (repeat (intro b1; refine Q.r ?_))
  refine N.r1 (RV.tmp rfl RV.nil) (Ent.trans (M := jP p v self j.v.dim mp md :: vaultH v j.v :: jT mp ps :: jD md j.done :: roM M2 :: L) (by exact Go.SX.Ent.go) (jur_shut (hq.mono (hl1.trans hl2)) rfl)) ⟨a, c, es, M2, rfl, hl1.trans hl2, hs1.mono hl2, hs2, hp, hs, rfl⟩
theorem JDumpS_spec (M : Nat → Option Obj) (p : Nat) (j : JS) (n : Nat) (L : List HP) (hw : WF j.v n) (hn : n ≤ 10000) :
    CallsS Tryz.prog 52 [ptrJ p] (jurH M p j :: roM M :: L) (fun r L' => ∃ (a : Option Addr) (c : Nat) (es : List EV) (M' : Nat → Option Obj), r = .slice a es.length c ∧ leM M M' ∧ SlM M' a es.length 2 (es.flatMap EV.cells) ∧ (∀ e ∈ es, okE M' e) ∧ (es.map EV.abs).Perm j.v.ch ∧ (es.map (·.id)).Pairwise (· < ·) ∧ L' = jurH M' p j :: roM M' :: L) := by
  refine calls_jur fun v mp md self ps hq => ?_
  refine CallsS.of_body Tryz.func52 rfl rfl rfl ?_
  refine Q.r ?_; (repeat (intro b1; refine Q.r ?_))
  refine S.cr rfl (vaultOf_spec p v self j.v.dim mp md _) ?_
  rintro _ _ ⟨rfl, rfl⟩
  refine Q.r ?_; (repeat (intro b1; refine Q.r ?_))
  refine S.cv v rfl (DumpO_spec v j.v n _ hw hn) ?_
  rintro _ _ ⟨a, c, es, rfl, hp, hs, rfl⟩
  refine opsS_abs a (fun M1 hl1 hs1 => ?_)
  refine opsS_absE es (fun M2 hl2 hs2 => ?_)
  refine Q.r ?_; (repeat (intro b1; refine Q.r ?_))
  refine N.r1 (RV.tmp rfl RV.nil) (Ent.trans (M := jP p v self j.v.dim mp md :: vaultH v j.v :: jT mp ps :: jD md j.done :: roM M2 :: L) (by exact Go.SX.Ent.go) (jur_shut (hq.mono (hl1.trans hl2)) rfl)) ⟨a, c, es, M2, rfl, hl1.trans hl2, hs1.mono hl2, hs2, hp, hs, rfl⟩
def srtM {α : Type} (m : List (Int × α)) : List (Int × α) := (sortL (m.map (·.1))).filterMap fun k => (lkL m k).map fun a => (k, a)
theorem srt_eq {α : Type} {m es : List (Int × α)} (hk : keysOK m) (hp : es.Perm m) (hs : (es.map (·.1)).Pairwise (· < ·)) : es = srtM m := by
  have h1 : es.map (·.1) = sortL (m.map (·.1)) := sorted_uniq ((hp.map _).trans (sortL_perm _).symm) (hs.imp (fun h => Int.le_of_lt h)) (sortL_sorted _)
  unfold srtM
  rw [← h1]
  have h2 : ∀ u ∈ es, lkL m u.1 = some u.2 := fun u hu => (lkL_iff hk).2 (hp.mem_iff.1 hu)
  clear h1 hs hp
  induction es with
  | nil => rfl
  | cons u es ih =>
    rw [List.map_cons, List.filterMap_cons, h2 u (by simp)]
    dsimp only [Option.map_some]
    rw [← ih (fun w hw => h2 w (List.mem_cons_of_mem _ hw))]
abbrev packVer (v : Int × List Int) : List UInt8 := numI v.1 ++ vecI v.2
abbrev packEnt (e : Int × VL) : List UInt8 := numI e.1 ++ numI (e.2.length : Int) ++ e.2.flatMap packVer
abbrev packPart (x : Int) : List UInt8 := numI (IntKind.u64.wrap x)
abbrev packInt (parts : List (Int × List Int)) (i : Int × Int × VL) : List UInt8 := numI i.1 ++ numI i.2.1 ++ numI (((lkL parts i.1).getD []).length : Int) ++ ((lkL parts i.1).getD []).flatMap packPart ++ numI (i.2.2.length : Int) ++ i.2.2.flatMap packVer
abbrev packDone (done : List (Int × Int)) (t : Int) : List UInt8 := numI t ++ numI ((lkL done t).getD 0)
def packV (j : JS) : List UInt8 :=
  numI j.v.mark ++ numI ((srtM j.v.ch).length : Int) ++ (srtM j.v.ch).flatMap packEnt ++ numI ((srtM j.v.its).length : Int) ++ (srtM j.v.its).flatMap (packInt j.parts) ++ numI (j.done.length : Int) ++ (sortL (j.done.map (·.1))).flatMap (packDone j.done)
end Go.Proofs.YtjidejcehmamkaaGreatDoor
namespace Go.Proofs.YtjidejcehmamkaaGreatDoor
open Go Go.SX
structure JPK (j : JS) : Prop where
  m : j.v.mark ≤ 18446744073709551615
  its : ∀ i ∈ j.v.its, i.1 ≤ 18446744073709551615 ∧ i.2.1 ≤ 18446744073709551615 ∧ ∀ o ∈ i.2.2, o.1 ≤ 18446744073709551615
  ch : ∀ c ∈ j.v.ch, c.1 ≤ 18446744073709551615 ∧ ∀ v ∈ c.2, v.1 ≤ 18446744073709551615
  done : ∀ d ∈ j.done, d.1 ≤ 18446744073709551615 ∧ d.2 ≤ 18446744073709551615
  parts : ∀ u ∈ j.parts, u.2.length ≤ 4
theorem JPK.zero {dim : Int} : JPK ⟨⟨dim, [], [], 0⟩, [], []⟩ := ⟨by show (0 : Int) ≤ 18446744073709551615; decide, (fun i hi => by cases hi), (fun i hi => by cases hi), (fun i hi => by cases hi), (fun i hi => by cases hi)⟩
theorem right_ops {n : NA} (h : rightN n = true) : n.parts.length ≤ 4 ∧ ∀ o ∈ n.ops, o.1 ≤ 1099511627776 := by
  unfold rightN boundN at h
  simp only [Bool.and_eq_true, Bool.not_eq_true', Bool.or_eq_false_iff, decide_eq_false_iff_not, List.any_eq_false] at h
  refine ⟨by have := h.2.1.1.1.2.1.1.1; omega, fun o ho => ?_⟩
  have h4 := h.2.1.2 o ho
  unfold badOp at h4
  rw [Bool.not_eq_true, Bool.or_eq_false_iff, decide_eq_false_iff_not] at h4
  omega
theorem putL_mem {κ α : Type} [DecidableEq κ] {m : List (κ × α)} {k : κ} {a : α} {x : κ × α} (h : x ∈ putL m k a) : x ∈ m ∨ x = (k, a) := by
  unfold putL at h
  split at h
  · obtain ⟨u, hu, rfl⟩ := List.mem_map.1 h
    split
    · exact .inr rfl
    · exact .inl hu
  · rcases List.mem_append.1 h with h | h
    · exact .inl h
    · exact .inr (List.mem_singleton.1 h)
theorem sw1_mem {s : Int} {u : List (Int × VL) × GL} {id : Int} {c : Int × VL} (h : c ∈ (sw1 s u id).1) : ∃ c0 ∈ u.1, c.1 = c0.1 ∧ ∀ v ∈ c.2, v ∈ c0.2 := by
  unfold sw1 at h
  dsimp only at h
  split at h
  · exact ⟨c, (List.mem_filter.1 h).1, rfl, fun v hv => hv⟩
  · rename_i h0
    rcases putL_mem h with h | rfl
    · exact ⟨c, h, rfl, fun v hv => hv⟩
    · cases hz : lkL u.1 id with
      | none =>
        exfalso
        apply h0
        unfold chV
        rw [hz]; simp
      | some w =>
        refine ⟨_, lk_memL hz, rfl, fun v hv => ?_⟩
        have e : chV u.1 id = w := by unfold chV; rw [hz]; rfl
        rw [e] at hv
        exact List.mem_of_mem_drop hv
theorem swF_mem {s : Int} {c : Int × VL} : ∀ {ks : List Int} {u : List (Int × VL) × GL}, c ∈ (ks.foldl (sw1 s) u).1 → ∃ c0 ∈ u.1, c.1 = c0.1 ∧ ∀ v ∈ c.2, v ∈ c0.2
  | [], _, h => ⟨c, h, rfl, fun v hv => hv⟩
  | k :: ks, u, h => by
    obtain ⟨c1, h1, e1, g1⟩ := swF_mem (ks := ks) h
    obtain ⟨c0, h0, e0, g0⟩ := sw1_mem h1
    exact ⟨c0, h0, e1.trans e0, fun v hv => g0 v (g1 v hv)⟩
theorem JPK.app {j : JS} {k : Nat} (hj : JOW j k) (h : JPK j) {n : NA} (u : NumA n) : JPK (appS j n) := by
  have u1 := u.txn
  have u2 := u.after
  have u3 := u.stamp
  unfold appS
  split
  · exact h
  rename_i hE
  have hE : appE j n = 0 := Decidable.not_not.1 hE
  have hr : rightN n = true := by
    cases hz : rightN n with
    | true => rfl
    | false => unfold appE at hE; rw [if_pos hz] at hE; cases hE
  have hro := right_ops hr
  unfold appE at hE
  rw [if_neg (by rw [hr]; decide)] at hE
  split
  · refine ⟨?_, fun i hi => ?_, ?_, h.done, fun v hv => ?_⟩
    · dsimp only; unfold lockS; split <;> exact h.m
    · dsimp only at hi
      unfold lockS at hi
      split at hi
      · rcases List.mem_append.1 hi with hi | hi
        · exact h.its i hi
        · rw [List.mem_singleton.1 hi]
          exact ⟨u1.2, u2.2, fun o ho => by have := hro.2 o ho; omega⟩
      · exact h.its i hi
    · dsimp only; unfold lockS; split <;> exact h.ch
    · rcases putL_mem hv with hv | rfl
      · exact h.parts v hv
      · exact hro.1
  rename_i c1
  rw [if_neg c1] at hE
  split
  · rename_i c2
    rw [if_pos c2] at hE
    obtain ⟨i, hi⟩ := applyE_held hE
    have hSv : applyS j.v n.txn n.stamp = { j.v with ch := applyC n.stamp j.v.ch i.2, its := delL j.v.its n.txn } := by unfold applyS; rw [hi]; dsimp only; rw [if_pos hE]
    refine ⟨?_, ?_, ?_, fun d hd => ?_, fun v hv => h.parts v (List.mem_filter.1 hv).1⟩
    · rw [hSv]; exact h.m
    · rw [hSv]; exact fun i hi => h.its i (List.mem_filter.1 hi).1
    · rw [hSv]
      intro c hc
      have hii := h.its _ (lk_memL hi)
      rcases applyC_mem hj.w.k1 (hj.w.wf.io _ (lk_memL hi)).2.1 hc with hc | ⟨o, ho, rfl⟩
      · exact h.ch c hc
      · refine ⟨hii.2.2 o ho, fun v hv => ?_⟩
        rcases List.mem_append.1 hv with hv | hv
        · unfold chV at hv
          cases hz : lkL j.v.ch o.1 with
          | none => rw [hz] at hv; cases hv
          | some w => rw [hz] at hv; exact (h.ch _ (lk_memL hz)).2 v hv
        · rw [List.mem_singleton.1 hv]; exact u3.2
    · rcases putL_mem hd with hd | rfl
      · exact h.done d hd
      · exact ⟨u1.2, u3.2⟩
  split
  · exact ⟨h.m, fun i hi => h.its i (List.mem_filter.1 hi).1, h.ch, h.done, fun v hv => h.parts v (List.mem_filter.1 hv).1⟩
  split
  · refine ⟨?_, ?_, ?_, h.done, h.parts⟩
    · have := h.m
      dsimp only
      unfold sweepS
      split <;> (try dsimp only) <;> omega
    · dsimp only
      unfold sweepS
      split <;> exact h.its
    · dsimp only
      unfold sweepS
      split
      · exact h.ch
      · intro c hc
        obtain ⟨c0, h0, e0, g0⟩ := swF_mem (u := (j.v.ch, [])) hc
        have := h.ch c0 h0
        exact ⟨by rw [e0]; exact this.1, fun v hv => this.2 v (g0 v hv)⟩
  · exact h
theorem JPK.step {j : JS} {k : Nat} (hj : JOW j k) (h : JPK j) {n : NA} (u : NumA n) (f : Int) (w raw : Bool) : JPK (stepS j f n w raw) := by
  have z0 : (0 : Int) ≤ 0 ∧ (0 : Int) ≤ 18446744073709551615 := by decide
  have z1 : (0 : Int) ≤ 9223372036854775807 := by decide
  unfold stepS
  split
  · exact h.app hj u
  split
  · rcases plan_one hj u.txn.1 f with he | ⟨r, he, _, _, _, hr⟩
    · rw [he]; exact h
    · rw [he, foldl_one]
      refine h.app hj ?_
      rcases hr with ⟨rfl, _⟩ | rfl | rfl
      · exact ⟨by show (0 : Int) ≤ 12 ∧ (12 : Int) ≤ 255; decide, u.txn, u.batch, u.stamp, u.after, u.mark, u.query, u.id, u.k, u.ef, u.code, u.who⟩
      · exact ⟨by show (0 : Int) ≤ 13 ∧ (13 : Int) ≤ 255; decide, u.txn, z0, u.stamp, z0, z0, z0, z0, z1, z1, z1, z1⟩
      · exact ⟨by show (0 : Int) ≤ 14 ∧ (14 : Int) ≤ 255; decide, u.txn, z0, z0, z0, z0, z0, z0, z1, z1, z1, z1⟩
  · exact h
end Go.Proofs.YtjidejcehmamkaaGreatDoor
namespace Go.Proofs.YtjidejcehmamkaaGreatDoor
open Go Go.SX
attribute [local irreducible] swp opsS thenS blockS retS CallsS St Ent YieldS anyS drawS
theorem flat_le {α : Type} {f : α → List UInt8} {c : Nat} : ∀ {l : List α}, (∀ x ∈ l, (f x).length ≤ c) → (l.flatMap f).length ≤ l.length * c
  | [], _ => by simp
  | x :: l, h => by
    have h1 := h x (by simp)
    have h2 := flat_le (f := f) (c := c) (l := l) (fun y hy => h y (List.mem_cons_of_mem _ hy))
    rw [List.flatMap_cons, List.length_append, List.length_cons, Nat.succ_mul]
    omega
theorem vecI_len {v : List Int} (h : v.length ≤ 8) : (vecI v).length ≤ 90 := by
  unfold vecI
  have h1 := numI_len (z := (v.length : Int)) (by omega)
  have h2 : (v.flatMap fun n => numI (zzI n)).length ≤ v.length * 10 := flat_le fun n _ => numI_len (u64_le _)
  rw [List.length_append]
  omega
theorem packVer_len {v : Int × List Int} (h : v.1 ≤ 18446744073709551615) (h2 : v.2.length ≤ 8) : (packVer v).length ≤ 100 := by
  have := numI_len h
  have := vecI_len h2
  rw [List.length_append]
  omega
theorem take_le {α : Type} {l : List α} {f : α → List UInt8} {c : Nat} (k : Nat) (h : ∀ x ∈ l, (f x).length ≤ c) : ((l.take k).flatMap f).length ≤ l.length * c := by
  refine Nat.le_trans (flat_le fun x hx => h x (List.mem_of_mem_take hx)) (Nat.mul_le_mul_right c (by rw [List.length_take]; omega))
theorem flat1 {α : Type} {l : List α} {k : Nat} {x : α} {f : α → List UInt8} (h : l[k]? = some x) : (l.take (k + 1)).flatMap f = (l.take k).flatMap f ++ f x := by rw [take_snoc h, List.flatMap_append]; simp
theorem RdS.row1 {L : List HP} {b n : Nat} {l : List Value} {t : TypeId} [h : FindB b L (cl l t)] (hl : l.length = n) : RdS L (some ⟨b, 0, none⟩) n 1 l := ⟨by rw [hl, Nat.mul_one], .inr ⟨b, 0, rfl, RdC.row⟩⟩
theorem wH_new {w : Nat} {L : List HP} : Ent (pt w (cl [.slice none 0 0] 121) :: L) (wH w [] :: L) := Ent.trans (Ent.cons slO_nil) (wH_shut (a := none) (c := 0) (bs := []))
theorem parts_of {M : Nat → Option Obj} {j : JS} {sf : Int} {ps : List (Int × PV)} (h : JQ M j sf ps) (t : Int) :
    ∃ (a : Option Addr) (c : Nat) (l : List Int), ((lkL ps t = none ∧ a = none ∧ c = 0 ∧ l = []) ∨ ∃ v, lkL ps t = some v ∧ a = v.a ∧ c = v.c ∧ l = v.l) ∧ (lkL j.parts t).getD [] = l ∧ SlM M a l.length 1 (l.map I64) := by
  have e : lkL j.parts t = (lkL ps t).map (·.l) := by
    rw [← h.pt]
    unfold lkL
    rw [List.find?_map, Option.map_map, Option.map_map]
    rfl
  cases hz : lkL ps t with
  | none =>
    rw [hz] at e
    exact ⟨none, 0, [], .inl ⟨rfl, rfl, rfl, rfl⟩, by rw [e]; rfl, SlM.nil0⟩
  | some v =>
    rw [hz] at e
    exact ⟨v.a, v.c, v.l, .inr ⟨v, rfl, rfl, rfl, rfl⟩, by rw [e]; rfl, h.ok _ (lk_memL hz)⟩
theorem len6 {a b c d e f : List UInt8} (ha : a.length ≤ 10) (hb : b.length ≤ 10) (hc : c.length ≤ 10) (hd : d.length ≤ 40) (he : e.length ≤ 10) (hf : f.length ≤ 1600) : (a ++ b ++ c ++ d ++ e ++ f).length ≤ 2000 := by
  simp only [List.length_append]; omega
theorem Ycast {P : Program} {n : Nat} {ops : List Oper} {o : Oper} {f : Env} {A : List HP} {v v' : Value} (h : YieldS P n ops o f A v) (e : v = v') : YieldS P n ops o f A v' := e ▸ h
set_option maxHeartbeats 8000000 in
theorem JPack_spec (M : Nat → Option Obj) (p : Nat) (j : JS) (k : Nat) (L : List HP) (hj : JOW j k) (hk : k ≤ 100) (hb : JPK j) :
    CallsS Tryz.prog 19 [ptrJ p] (jurH M p j :: roM M :: L) (fun r L' => ∃ (a : Option Addr) (c : Nat) (M' : Nat → Option Obj), r = .slice a (packV j).length c ∧ leM M M' ∧ L' = slO 5 1 a (packV j).length c ((packV j).map B) :: jurH M' p j :: roM M' :: L) := by
  refine CallsS.of_body Tryz.func19 rfl rfl rfl ?_
  refine Q.r ?_; (repeat (intro b1; refine Q.r ?_))
  revert b1
  intro bw
  refine opsS_ent wH_new ?_
  refine Q.r ?_; (repeat (intro b1; refine Q.r ?_))
  refine S.cj p rfl (JDumpS_spec M p j k _ hj.w.wf (by omega)) ?_
  rintro _ _ ⟨ea, ec, es, M1, rfl, hl1, hsE, hoE, hpE, hsrtE, rfl⟩
  have hE : es.map EV.abs = srtM j.v.ch := srt_eq hj.w.k1 hpE (by rw [List.map_map]; exact hsrtE)
  have hel : es.length ≤ 1600 := by
    have := hpE.length_eq
    rw [List.length_map] at this
    have h2 := hj.w.wf.cl
    omega
  have hin : ∀ e ∈ es, e.abs ∈ j.v.ch := fun e he => hpE.mem_iff.1 (List.mem_map_of_mem (f := EV.abs) he)
  have hvl : ∀ e ∈ es, e.vs.length ≤ 100 ∧ e.id ≤ 18446744073709551615 ∧ ∀ v ∈ e.vs, v.id ≤ 18446744073709551615 ∧ v.vec.length ≤ 8 := fun e he => by
    have h1 := hj.w.wf.co _ (hin e he)
    have h2 := hb.ch _ (hin e he)
    have h3 := h1.2.1
    rw [List.length_map] at h3
    exact ⟨by omega, h2.1, fun v hv => ⟨h2.2 v.abs (List.mem_map_of_mem hv), h1.2.2 v.abs (List.mem_map_of_mem hv)⟩⟩
  have hpe : ∀ e ∈ es, (packEnt e.abs).length ≤ 10020 := fun e he => by
    have h1 := hvl e he
    have h2 : (numI e.abs.1).length ≤ 10 := numI_len h1.2.1
    have h3 := numI_len (z := (e.abs.2.length : Int)) (by rw [List.length_map]; omega)
    have h4 : (e.abs.2.flatMap packVer).length ≤ e.abs.2.length * 100 := flat_le fun v hv => by
      obtain ⟨u, hu, rfl⟩ := List.mem_map.1 hv
      exact packVer_len (h1.2.2 u hu).1 (h1.2.2 u hu).2
    have h5 : e.abs.2.length ≤ 100 := by rw [List.length_map]; exact h1.1
    rw [List.length_append, List.length_append]
    generalize (e.abs.2.flatMap packVer).length = q1 at h4 ⊢
    generalize (numI e.abs.1).length = q2 at h2 ⊢
    generalize (numI (e.abs.2.length : Int)).length = q3 at h3 ⊢
    omega
  refine Q.r ?_; (repeat (intro b1; refine Q.r ?_))
  refine S.cjn p rfl (JMark_spec M1 p j _) ?_
  rintro _ _ ⟨rfl, rfl⟩
  refine Q.r ?_; (repeat (intro b1; refine Q.r ?_))
  refine S.y (Y.cvi rfl) ?_
  rw [wrap_u64 (by omega) (by omega)]
  refine Q.r ?_; (repeat (intro b1; refine Q.r ?_))
  refine S.c1 rfl (wNums_spec bw [] (some ⟨b1, 0, none⟩) 2 [j.v.mark, (es.length : Int)] _ (RdS.row1 rfl) (by intro z hz; have := hb.m; rcases (by simpa using hz : z = j.v.mark ∨ z = (es.length : Int)) with rfl | rfl <;> omega) (by simp)) ?_
  rintro _ _ ⟨rfl, rfl⟩
  have e0 : [] ++ [j.v.mark, (es.length : Int)].flatMap numI = numI j.v.mark ++ numI ((srtM j.v.ch).length : Int) := by
    rw [← hE, List.length_map]; simp
  rw [e0]
  have hH0 : (numI j.v.mark ++ numI ((srtM j.v.ch).length : Int)).length ≤ 20 := by
    have h1 := numI_len hb.m
    have h2 := numI_len (z := ((srtM j.v.ch).length : Int)) (by rw [← hE, List.length_map]; omega)
    rw [List.length_append]; omega
  obtain ⟨H0, hH0e⟩ : ∃ H0, H0 = numI j.v.mark ++ numI ((srtM j.v.ch).length : Int) := ⟨_, rfl⟩
  rw [← hH0e] at hH0 ⊢
  refine Q.r ?_; (repeat (intro b1; refine Q.r ?_))
  refine swp_cutB (σ := Unit) (fun _ => [(0, ptrJ p), (3, .pointer (some ⟨bw, 0, none⟩))]) (fun _ => wH bw (H0 ++ es.flatMap fun e => packEnt e.abs) :: jurH M1 p j :: roM M1 :: L) (fun _ => True) ?_ ?_
  · refine swp_loop (σ := Nat) (fun i => [(0, ptrJ p), (3, .pointer (some ⟨bw, 0, none⟩)), (32, .slice ea es.length ec), (33, .int .i64 es.length), (34, .int .i64 i)]) (fun i => wH bw (H0 ++ (es.take i).flatMap fun e => packEnt e.abs) :: jurH M1 p j :: roM M1 :: L)
      (fun i => i ≤ es.length) (fun i => es.length - i) 0 ⟨rfl, rfl, rfl, rfl, rfl, trivial⟩ (by simp only [List.take_zero, List.flatMap_nil, List.append_nil]; exact Go.SX.Ent.go) (by omega) ?_
    intro i hi
    by_cases hlt : i < es.length
    · obtain ⟨e, he⟩ := mem_get hlt
      have hme : e ∈ es := List.mem_of_getElem? he
      have hev := hvl e hme
      obtain ⟨b5, o5, hia5, cr5⟩ := SlM.cm (g := EV.cells) (fun _ => rfl) hsE he rfl
      have hXl : ((es.take i).flatMap fun e => packEnt e.abs).length ≤ es.length * 10020 := take_le i hpe
      generalize hX : ((es.take i).flatMap fun e => packEnt e.abs) = X at hXl ⊢
      rw [hia5]
      refine Q.r ?_; (repeat (intro b1; refine Q.r ?_))
      refine S.y (Y.cvi rfl) ?_
      rw [wrap_u64 (by omega) (by omega)]
      refine Q.r ?_; (repeat (intro b1; refine Q.r ?_))
      refine S.c1 rfl (wNums_spec bw (H0 ++ X) (some ⟨b1, 0, none⟩) 2 [e.id, (e.vs.length : Int)] _ (RdS.row1 rfl) (by intro z hz; rcases (by simpa using hz : z = e.id ∨ z = (e.vs.length : Int)) with rfl | rfl <;> omega) (by rw [List.length_append]; simp only [List.length_cons, List.length_nil]; omega)) ?_
      rintro _ _ ⟨rfl, rfl⟩
      have hYl : ((numI e.id ++ numI (e.vs.length : Int))).length ≤ 20 := by
        have h1 := numI_len hev.2.1
        have h2 := numI_len (z := (e.vs.length : Int)) (by omega)
        rw [List.length_append]; omega
      have e1 : H0 ++ X ++ [e.id, (e.vs.length : Int)].flatMap numI = H0 ++ X ++ (numI e.id ++ numI (e.vs.length : Int)) := by simp
      rw [e1]
      generalize hY : numI e.id ++ numI (e.vs.length : Int) = YY at hYl ⊢
      refine Q.r ?_; (repeat (intro b1; refine Q.r ?_))
      refine swp_loop (σ := Nat) (fun m => [(0, ptrJ p), (3, .pointer (some ⟨bw, 0, none⟩)), (32, .slice (some ⟨b5, o5, none⟩) es.length ec), (33, .int .i64 es.length), (34, .int .i64 i), (48, .slice e.a e.vs.length e.c), (49, .int .i64 e.vs.length), (50, .int .i64 m)])
        (fun m => wH bw (H0 ++ X ++ YY ++ (e.vs.take m).flatMap fun v => packVer v.abs) :: jurH M1 p j :: roM M1 :: L) (fun m => m ≤ e.vs.length) (fun m => e.vs.length - m) 0 ⟨rfl, rfl, rfl, rfl, rfl, rfl, rfl, rfl, trivial⟩ (by simp only [List.take_zero, List.flatMap_nil, List.append_nil]; exact Go.SX.Ent.go) (by omega) ?_
      intro m hm
      by_cases hmt : m < e.vs.length
      · obtain ⟨v, hv⟩ := mem_get hmt
        have hmv : v ∈ e.vs := List.mem_of_getElem? hv
        have hvv := hev.2.2 v hmv
        have hrv : SlM M1 v.a v.vec.length 1 (v.vec.map I32) := (hoE e hme).2 v hmv
        obtain ⟨b6, o6, hia6, cr6⟩ := SlM.cm (g := OV.cells) (fun _ => rfl) (hoE e hme).1 hv rfl
        have hZl : ((e.vs.take m).flatMap fun v => packVer v.abs).length ≤ e.vs.length * 100 := take_le m (fun u hu => packVer_len (hev.2.2 u hu).1 (hev.2.2 u hu).2)
        have hnx : (e.vs.take (m + 1)).flatMap (fun v => packVer v.abs) = (e.vs.take m).flatMap (fun v => packVer v.abs) ++ packVer v.abs := flat1 hv
        generalize hZ : ((e.vs.take m).flatMap fun v => packVer v.abs) = Z at hZl hnx ⊢
        have hn1 := numI_len hvv.1
        rw [hia6]
        refine Q.r ?_; (repeat (intro b1; refine Q.r ?_))
        refine Q.dgo [true] [3, 4, 7, 8] [] [0, 1, 2, 5, 6, 99999, 0, 0, 0] ?_
        repeat (first | refine D.endA ?_ | refine Q.dy rfl rfl rfl ?_ | refine Q.dp rfl rfl rfl ?_ | refine D.end_ ?_ | refine Q.endH ?_ | (refine D.e rfl rfl rfl ?_; (first | refine S.gskip1 rfl ?_ | refine S.gskip rfl ?_ | refine S.y (Y.gskipU rfl) ?_); refine opsS_nil ?_; refine N.tn ?_))
        refine D.two 3 7 [99999, 0, 0] [3, 4, 8] (by kernel_rfl) rfl rfl rfl rfl (by kernel_rfl) (by kernel_rfl) ?_ ?_
        · refine GQ.a ?_
          refine Q.al (fun bn => ?_)
          repeat (first | (refine GQ.y ?_; refine Q.y ?_) | refine Q.go ?_ | (refine GQ.g ?_; refine Q.gq ?_) | (refine GQ.s ?_; refine Q.st ?_))
          repeat (first | refine D.endA ?_ | refine Q.dy rfl rfl rfl ?_ | refine Q.dp rfl rfl rfl ?_ | refine D.end_ ?_ | refine Q.endH ?_ | (refine D.e rfl rfl rfl ?_; (first | refine S.gskip1 rfl ?_ | refine S.gskip rfl ?_ | refine S.y (Y.gskipU rfl) ?_); refine opsS_nil ?_; refine N.tn ?_))
          refine D.two 4 7 [7, 8] [4, 8] (by kernel_rfl) rfl rfl rfl rfl (by kernel_rfl) (by kernel_rfl) ?_ ?_
          · refine S.c1 rfl (wNums_spec bw (H0 ++ X ++ YY ++ Z) (some ⟨bn, 0, none⟩) 1 [v.id] _ (RdS.row1 rfl) (by intro z hz; rw [List.mem_singleton.1 hz]; omega) (by simp only [List.length_append, List.length_cons, List.length_nil]; omega)) ?_
            rintro _ _ ⟨rfl, rfl⟩
            repeat (first | (refine GQ.y ?_; refine Q.y ?_) | refine Q.go ?_ | (refine GQ.g ?_; refine Q.gq ?_) | (refine GQ.s ?_; refine Q.st ?_))
            repeat (first | refine D.endA ?_ | refine Q.dy rfl rfl rfl ?_ | refine Q.dp rfl rfl rfl ?_ | refine D.end_ ?_ | refine Q.endH ?_ | (refine D.e rfl rfl rfl ?_; (first | refine S.gskip1 rfl ?_ | refine S.gskip rfl ?_ | refine S.y (Y.gskipU rfl) ?_); refine opsS_nil ?_; refine N.tn ?_))
            refine D.e rfl rfl rfl ?_
            refine GQ.a ?_
            refine Q.al (fun bv => ?_)
            repeat (first | (refine GQ.y ?_; refine Q.y ?_) | refine Q.go ?_ | (refine GQ.g ?_; refine Q.gq ?_) | (refine GQ.s ?_; refine Q.st ?_))
            repeat (first | refine D.endA ?_ | refine Q.dy rfl rfl rfl ?_ | refine Q.dp rfl rfl rfl ?_ | refine D.end_ ?_ | refine Q.endH ?_ | (refine D.e rfl rfl rfl ?_; (first | refine S.gskip1 rfl ?_ | refine S.gskip rfl ?_ | refine S.y (Y.gskipU rfl) ?_); refine opsS_nil ?_; refine N.tn ?_))
            refine D.e rfl rfl rfl ?_
            refine S.c1 rfl (wVec_spec bw (H0 ++ X ++ YY ++ Z ++ [v.id].flatMap numI) bv 0 v.a v.c 1 v.vec _ (RdC.row) (hrv.rd) (by simp only [List.length_append, List.flatMap_cons, List.flatMap_nil, List.length_nil]; omega)) ?_
            rintro _ _ ⟨rfl, rfl⟩
            repeat (first | (refine GQ.y ?_; refine Q.y ?_) | refine Q.go ?_ | (refine GQ.g ?_; refine Q.gq ?_) | (refine GQ.s ?_; refine Q.st ?_))
            repeat (first | refine D.endA ?_ | refine Q.dy rfl rfl rfl ?_ | refine Q.dp rfl rfl rfl ?_ | refine D.end_ ?_ | refine Q.endH ?_ | (refine D.e rfl rfl rfl ?_; (first | refine S.gskip1 rfl ?_ | refine S.gskip rfl ?_ | refine S.y (Y.gskipU rfl) ?_); refine opsS_nil ?_; refine N.tn ?_))
            refine Q.rd ?_; (repeat (intro b1; refine Q.rd ?_))
            refine Q.r ?_; (repeat (intro b1; refine Q.r ?_))
            refine ⟨m + 1, ⟨rfl, rfl, rfl, rfl, rfl, by first | rfl | (rw [← hia6]; rfl), rfl, rfl, trivial⟩, ?_, by omega, by omega⟩
            rw [hnx]
            have e3 : H0 ++ X ++ YY ++ Z ++ [v.id].flatMap numI ++ vecI v.vec = H0 ++ X ++ YY ++ (Z ++ packVer v.abs) := by simp [packVer]
            rw [e3]
            exact Go.SX.Ent.go
          · refine GQ.a ?_
            refine Q.al (fun bv => ?_)
            repeat (first | (refine GQ.y ?_; refine Q.y ?_) | refine Q.go ?_ | (refine GQ.g ?_; refine Q.gq ?_) | (refine GQ.s ?_; refine Q.st ?_))
            repeat (first | refine D.endA ?_ | refine Q.dy rfl rfl rfl ?_ | refine Q.dp rfl rfl rfl ?_ | refine D.end_ ?_ | refine Q.endH ?_ | (refine D.e rfl rfl rfl ?_; (first | refine S.gskip1 rfl ?_ | refine S.gskip rfl ?_ | refine S.y (Y.gskipU rfl) ?_); refine opsS_nil ?_; refine N.tn ?_))
            refine D.e rfl rfl rfl ?_
            refine S.c1 rfl (wNums_spec bw (H0 ++ X ++ YY ++ Z) (some ⟨bn, 0, none⟩) 1 [v.id] _ (RdS.row1 rfl) (by intro z hz; rw [List.mem_singleton.1 hz]; omega) (by simp only [List.length_append, List.length_cons, List.length_nil]; omega)) ?_
            rintro _ _ ⟨rfl, rfl⟩
            repeat (first | (refine GQ.y ?_; refine Q.y ?_) | refine Q.go ?_ | (refine GQ.g ?_; refine Q.gq ?_) | (refine GQ.s ?_; refine Q.st ?_))
            repeat (first | refine D.endA ?_ | refine Q.dy rfl rfl rfl ?_ | refine Q.dp rfl rfl rfl ?_ | refine D.end_ ?_ | refine Q.endH ?_ | (refine D.e rfl rfl rfl ?_; (first | refine S.gskip1 rfl ?_ | refine S.gskip rfl ?_ | refine S.y (Y.gskipU rfl) ?_); refine opsS_nil ?_; refine N.tn ?_))
            refine D.e rfl rfl rfl ?_
            refine S.c1 rfl (wVec_spec bw (H0 ++ X ++ YY ++ Z ++ [v.id].flatMap numI) bv 0 v.a v.c 1 v.vec _ (RdC.row) (hrv.rd) (by simp only [List.length_append, List.flatMap_cons, List.flatMap_nil, List.length_nil]; omega)) ?_
            rintro _ _ ⟨rfl, rfl⟩
            repeat (first | (refine GQ.y ?_; refine Q.y ?_) | refine Q.go ?_ | (refine GQ.g ?_; refine Q.gq ?_) | (refine GQ.s ?_; refine Q.st ?_))
            repeat (first | refine D.endA ?_ | refine Q.dy rfl rfl rfl ?_ | refine Q.dp rfl rfl rfl ?_ | refine D.end_ ?_ | refine Q.endH ?_ | (refine D.e rfl rfl rfl ?_; (first | refine S.gskip1 rfl ?_ | refine S.gskip rfl ?_ | refine S.y (Y.gskipU rfl) ?_); refine opsS_nil ?_; refine N.tn ?_))
            refine Q.rd ?_; (repeat (intro b1; refine Q.rd ?_))
            refine Q.r ?_; (repeat (intro b1; refine Q.r ?_))
            refine ⟨m + 1, ⟨rfl, rfl, rfl, rfl, rfl, by first | rfl | (rw [← hia6]; rfl), rfl, rfl, trivial⟩, ?_, by omega, by omega⟩
            rw [hnx]
            have e3 : H0 ++ X ++ YY ++ Z ++ [v.id].flatMap numI ++ vecI v.vec = H0 ++ X ++ YY ++ (Z ++ packVer v.abs) := by simp [packVer]
            rw [e3]
            exact Go.SX.Ent.go
        · refine GQ.a ?_
          refine Q.al (fun bv => ?_)
          repeat (first | (refine GQ.y ?_; refine Q.y ?_) | refine Q.go ?_ | (refine GQ.g ?_; refine Q.gq ?_) | (refine GQ.s ?_; refine Q.st ?_))
          repeat (first | refine D.endA ?_ | refine Q.dy rfl rfl rfl ?_ | refine Q.dp rfl rfl rfl ?_ | refine D.end_ ?_ | refine Q.endH ?_ | (refine D.e rfl rfl rfl ?_; (first | refine S.gskip1 rfl ?_ | refine S.gskip rfl ?_ | refine S.y (Y.gskipU rfl) ?_); refine opsS_nil ?_; refine N.tn ?_))
          refine D.e rfl rfl rfl ?_
          refine GQ.a ?_
          refine Q.al (fun bn => ?_)
          repeat (first | (refine GQ.y ?_; refine Q.y ?_) | refine Q.go ?_ | (refine GQ.g ?_; refine Q.gq ?_) | (refine GQ.s ?_; refine Q.st ?_))
          repeat (first | refine D.endA ?_ | refine Q.dy rfl rfl rfl ?_ | refine Q.dp rfl rfl rfl ?_ | refine D.end_ ?_ | refine Q.endH ?_ | (refine D.e rfl rfl rfl ?_; (first | refine S.gskip1 rfl ?_ | refine S.gskip rfl ?_ | refine S.y (Y.gskipU rfl) ?_); refine opsS_nil ?_; refine N.tn ?_))
          refine D.e rfl rfl rfl ?_
          refine S.c1 rfl (wNums_spec bw (H0 ++ X ++ YY ++ Z) (some ⟨bn, 0, none⟩) 1 [v.id] _ (RdS.row1 rfl) (by intro z hz; rw [List.mem_singleton.1 hz]; omega) (by simp only [List.length_append, List.length_cons, List.length_nil]; omega)) ?_
          rintro _ _ ⟨rfl, rfl⟩
          repeat (first | (refine GQ.y ?_; refine Q.y ?_) | refine Q.go ?_ | (refine GQ.g ?_; refine Q.gq ?_) | (refine GQ.s ?_; refine Q.st ?_))
          repeat (first | refine D.endA ?_ | refine Q.dy rfl rfl rfl ?_ | refine Q.dp rfl rfl rfl ?_ | refine D.end_ ?_ | refine Q.endH ?_ | (refine D.e rfl rfl rfl ?_; (first | refine S.gskip1 rfl ?_ | refine S.gskip rfl ?_ | refine S.y (Y.gskipU rfl) ?_); refine opsS_nil ?_; refine N.tn ?_))
          refine D.e rfl rfl rfl ?_
          refine S.c1 rfl (wVec_spec bw (H0 ++ X ++ YY ++ Z ++ [v.id].flatMap numI) bv 0 v.a v.c 1 v.vec _ (RdC.row) (hrv.rd) (by simp only [List.length_append, List.flatMap_cons, List.flatMap_nil, List.length_nil]; omega)) ?_
          rintro _ _ ⟨rfl, rfl⟩
          repeat (first | (refine GQ.y ?_; refine Q.y ?_) | refine Q.go ?_ | (refine GQ.g ?_; refine Q.gq ?_) | (refine GQ.s ?_; refine Q.st ?_))
          repeat (first | refine D.endA ?_ | refine Q.dy rfl rfl rfl ?_ | refine Q.dp rfl rfl rfl ?_ | refine D.end_ ?_ | refine Q.endH ?_ | (refine D.e rfl rfl rfl ?_; (first | refine S.gskip1 rfl ?_ | refine S.gskip rfl ?_ | refine S.y (Y.gskipU rfl) ?_); refine opsS_nil ?_; refine N.tn ?_))
          refine Q.rd ?_; (repeat (intro b1; refine Q.rd ?_))
          refine Q.r ?_; (repeat (intro b1; refine Q.r ?_))
          refine ⟨m + 1, ⟨rfl, rfl, rfl, rfl, rfl, by first | rfl | (rw [← hia6]; rfl), rfl, rfl, trivial⟩, ?_, by omega, by omega⟩
          rw [hnx]
          have e3 : H0 ++ X ++ YY ++ Z ++ [v.id].flatMap numI ++ vecI v.vec = H0 ++ X ++ YY ++ (Z ++ packVer v.abs) := by simp [packVer]
          rw [e3]
          exact Go.SX.Ent.go
      · have hme2 : m = e.vs.length := by omega
        subst hme2
        rw [List.take_length]
        refine Q.r ?_; (repeat (intro b1; refine Q.r ?_))
        refine ⟨i + 1, ⟨rfl, rfl, rfl, rfl, rfl, trivial⟩, ?_, by omega, by omega⟩
        have e2 : H0 ++ (es.take (i + 1)).flatMap (fun e => packEnt e.abs) = H0 ++ X ++ YY ++ e.vs.flatMap fun v => packVer v.abs := by
          rw [flat1 he, hX, ← hY]
          show H0 ++ (X ++ (numI e.id ++ numI ((e.vs.map OV.abs).length : Int) ++ (e.vs.map OV.abs).flatMap packVer)) = _
          rw [List.length_map, List.flatMap_map]
          simp only [List.append_assoc]
        rw [e2]
        exact Go.SX.Ent.go
    · have hie : i = es.length := by omega
      subst hie
      rw [List.take_length]
      refine Q.r ?_; (repeat (intro b1; refine Q.r ?_))
      exact ⟨(), ⟨rfl, rfl, trivial⟩, Ent.refl _, trivial⟩
  · rintro _ _
    have hXE : (es.flatMap fun e => packEnt e.abs).length ≤ es.length * 10020 := flat_le hpe
    obtain ⟨H1, hH1e⟩ : ∃ H1, H1 = H0 ++ es.flatMap fun e => packEnt e.abs := ⟨_, rfl⟩
    have hH1 : H1.length ≤ 20000000 := by rw [hH1e, List.length_append]; omega
    rw [← hH1e]
    have hH1f : H1 = numI j.v.mark ++ numI ((srtM j.v.ch).length : Int) ++ (srtM j.v.ch).flatMap packEnt := by
      rw [hH1e, hH0e, ← hE, List.flatMap_map]
    clear hXE hpe hvl hin hsE hoE
    refine Q.r ?_; (repeat (intro b1; refine Q.r ?_))
    refine S.cj p rfl (JIntentsS_spec M1 p j k _ hj.w.wf (by omega)) ?_
    rintro _ _ ⟨ia, ic, is, M2, rfl, hl2, hsI, hoI, hpI, hsrtI, rfl⟩
    have hI : is.map IV.abs = srtM j.v.its := srt_eq hj.w.k2 hpI (by rw [List.map_map]; exact hsrtI)
    have hil : is.length ≤ 100 := by
      have := hpI.length_eq
      rw [List.length_map] at this
      have h2 := hj.w.wf.il
      omega
    have hinI : ∀ e ∈ is, e.abs ∈ j.v.its := fun e he => hpI.mem_iff.1 (List.mem_map_of_mem (f := IV.abs) he)
    have hvI : ∀ e ∈ is, e.ops.length ≤ 16 ∧ e.txn ≤ 18446744073709551615 ∧ e.after ≤ 18446744073709551615 ∧ ∀ v ∈ e.ops, v.id ≤ 18446744073709551615 ∧ v.vec.length ≤ 8 := fun e he => by
      have h1 := hj.w.wf.io _ (hinI e he)
      have h2 := hb.its _ (hinI e he)
      have h3 := h1.1
      rw [List.length_map] at h3
      exact ⟨h3, h2.1, h2.2.1, fun v hv => ⟨h2.2.2 v.abs (List.mem_map_of_mem hv), (h1.2.2 v.abs (List.mem_map_of_mem hv)).1⟩⟩
    have hpl4 : ∀ t, ((lkL j.parts t).getD []).length ≤ 4 := fun t => by
      cases hz : lkL j.parts t with
      | none => exact Nat.zero_le _
      | some l => exact hb.parts _ (lk_memL hz)
    have hpi : ∀ e ∈ is, (packInt j.parts e.abs).length ≤ 2000 := fun e he => by
      have h1 := hvI e he
      have h2 : (numI e.abs.1).length ≤ 10 := numI_len h1.2.1
      have h3 : (numI e.abs.2.1).length ≤ 10 := numI_len h1.2.2.1
      have h4 := hpl4 e.abs.1
      have h5 : (numI (((lkL j.parts e.abs.1).getD []).length : Int)).length ≤ 10 := numI_len (by omega)
      have h6 : (((lkL j.parts e.abs.1).getD []).flatMap packPart).length ≤ ((lkL j.parts e.abs.1).getD []).length * 10 := flat_le fun x _ => numI_len (u64_le _)
      have h7 : e.abs.2.2.length ≤ 16 := by rw [List.length_map]; exact h1.1
      have h8 : (numI (e.abs.2.2.length : Int)).length ≤ 10 := numI_len (by omega)
      have h9 : (e.abs.2.2.flatMap packVer).length ≤ e.abs.2.2.length * 100 := flat_le fun v hv => by
        obtain ⟨u, hu, rfl⟩ := List.mem_map.1 hv
        exact packVer_len (h1.2.2.2 u hu).1 (h1.2.2.2 u hu).2
      exact len6 h2 h3 h5 (Nat.le_trans h6 (by omega)) h8 (Nat.le_trans h9 (by omega))
    refine Q.r ?_; (repeat (intro b1; refine Q.r ?_))
    refine S.y (Y.cvi rfl) ?_
    rw [wrap_u64 (by omega) (by omega)]
    refine Q.r ?_; (repeat (intro b1; refine Q.r ?_))
    refine S.c1 rfl (wNums_spec bw H1 (some ⟨b1, 0, none⟩) 1 [(is.length : Int)] _ (RdS.row1 rfl) (by intro z hz; rw [List.mem_singleton.1 hz]; omega) (by simp only [List.length_cons, List.length_nil]; omega)) ?_
    rintro _ _ ⟨rfl, rfl⟩
    obtain ⟨H2, hH2e⟩ : ∃ H2, H2 = H1 ++ [(is.length : Int)].flatMap numI := ⟨_, rfl⟩
    have hH2f : H2 = H1 ++ numI ((srtM j.v.its).length : Int) := by rw [hH2e, ← hI, List.length_map]; simp
    have hH2 : H2.length ≤ 20000010 := by
      have := numI_len (z := ((srtM j.v.its).length : Int)) (by rw [← hI, List.length_map]; omega)
      rw [hH2f, List.length_append]; omega
    rw [← hH2e]
    refine Q.r ?_; (repeat (intro b1; refine Q.r ?_))
    refine swp_cutB (σ := Unit) (fun _ => [(0, ptrJ p), (3, .pointer (some ⟨bw, 0, none⟩))]) (fun _ => wH bw (H2 ++ is.flatMap fun e => packInt j.parts e.abs) :: jurH M2 p j :: roM M2 :: L) (fun _ => True) ?_ ?_
    · refine swp_loop (σ := Nat) (fun i => [(0, ptrJ p), (3, .pointer (some ⟨bw, 0, none⟩)), (73, .slice ia is.length ic), (74, .int .i64 is.length), (75, .int .i64 i)]) (fun i => wH bw (H2 ++ (is.take i).flatMap fun e => packInt j.parts e.abs) :: jurH M2 p j :: roM M2 :: L)
        (fun i => i ≤ is.length) (fun i => is.length - i) 0 ⟨rfl, rfl, rfl, rfl, rfl, trivial⟩ (by simp only [List.take_zero, List.flatMap_nil, List.append_nil]; exact Go.SX.Ent.go) (by omega) ?_
      intro i hi
      by_cases hlt : i < is.length
      · obtain ⟨e, he⟩ := mem_get hlt
        have hme : e ∈ is := List.mem_of_getElem? he
        have hev := hvI e hme
        obtain ⟨b5, o5, hia5, cr5⟩ := SlM.cm (g := IV.cells) (fun _ => rfl) hsI he rfl
        have hXl : ((is.take i).flatMap fun e => packInt j.parts e.abs).length ≤ is.length * 2000 := take_le i hpi
        generalize hX : ((is.take i).flatMap fun e => packInt j.parts e.abs) = X at hXl ⊢
        rw [hia5]
        refine Q.r ?_; (repeat (intro b1; refine Q.r ?_))
        revert b1
        intro b11
        refine swp_jur p (fun v mp md self ps hq => ?_)
        obtain ⟨pa, pc, pl, hval, hpl, hsl⟩ := parts_of hq e.txn
        have hp4 := hpl4 e.txn
        rw [hpl] at hp4
        refine Q.dgo [true, false, true, false, true] [14, 15] [] [0, 1, 2, 3, 4, 5, 6, 7, 8, 9, 10, 11, 12, 13, 14, 15] ?_
        refine Q.rd ?_; (repeat (intro b1; refine Q.rd ?_))
        refine D.y rfl rfl rfl (by kernel_rfl) (Ycast (v' := .slice pa pl.length pc) (Y.lk false rfl rfl (fun w => Tryz.zeroValue31 w)) (by rcases hval with ⟨h1, rfl, rfl, rfl⟩ | ⟨v, h1, rfl, rfl, rfl⟩ <;> rw [h1] <;> rfl)) ?_
        refine Q.rd ?_; (repeat (intro b1; refine Q.rd ?_))
        refine D.y rfl rfl rfl (by kernel_rfl) (Y.cvi rfl) ?_
        rw [wrap_u64 (by omega) (by omega)]
        refine Q.rd ?_; (repeat (intro b1; refine Q.rd ?_))
        refine D.e rfl rfl rfl ?_
        refine S.c1 rfl (wNums_spec bw (H2 ++ X) (some ⟨b1, 0, none⟩) 3 [e.txn, e.after, (pl.length : Int)] _ (RdS.row1 rfl) (by intro z hz; rcases (by simpa using hz : z = e.txn ∨ z = e.after ∨ z = (pl.length : Int)) with rfl | rfl | rfl <;> omega) (by rw [List.length_append]; simp only [List.length_cons, List.length_nil]; omega)) ?_
        rintro _ _ ⟨rfl, rfl⟩
        obtain ⟨YY, hYY⟩ : ∃ YY, YY = [e.txn, e.after, (pl.length : Int)].flatMap numI := ⟨_, rfl⟩
        have hYl : YY.length ≤ 30 := by
          rw [hYY]
          exact flat_le (c := 10) fun x hx => by
            refine numI_len ?_
            rcases (by simpa using hx : x = e.txn ∨ x = e.after ∨ x = (pl.length : Int)) with rfl | rfl | rfl <;> omega
        rw [← hYY]
        refine Q.r ?_; (repeat (intro b1; refine Q.r ?_))
        refine Q.rd ?_; (repeat (intro b1; refine Q.rd ?_))
        refine Q.r ?_; (repeat (intro b1; refine Q.r ?_))
        refine D.start [] [] [0, 1, 2, 3, 4, 5, 6, 7, 8] _ [] rfl (by kernel_rfl) rfl (by kernel_rfl) NoPanic.no (Ent.refl _) ?_
        repeat (first | refine Q.dyn rfl rfl rfl ?_ | refine Q.dyl rfl rfl rfl ?_ | refine D.y rfl rfl rfl (by kernel_rfl) (by first | exact (Y.ldRj rfl (by first | assumption | exact RdC.sub (by assumption)) rfl) | exact Y.guard rfl (Y.ldRj rfl (by first | assumption | exact RdC.sub (by assumption)) rfl)) ?_ | refine D.endA ?_ | refine Q.dp rfl rfl rfl ?_ | refine Q.dy rfl rfl rfl ?_ | refine D.end_ ?_ | refine Q.endH ?_ | (refine D.e rfl rfl rfl ?_; (first | refine S.gskip1 rfl ?_ | refine S.gskip rfl ?_ | refine S.y (Y.gskipU rfl) ?_); refine opsS_nil ?_; refine N.tn ?_) | refine Q.dT rfl rfl rfl ?_ | refine Q.dF rfl rfl rfl ?_ | (refine D.e rfl rfl rfl ?_; (first | (refine GQ.a ?_; refine Q.al (fun b1 => ?_)) | (refine GQ.s ?_; refine Q.st ?_)); refine opsS_nil ?_; refine N.tn ?_))
        refine D.y rfl rfl rfl (by kernel_rfl) (Ycast (v' := .slice pa pl.length pc) (Y.lk false rfl rfl (fun w => Tryz.zeroValue31 w)) (by rcases hval with ⟨h1, rfl, rfl, rfl⟩ | ⟨v, h1, rfl, rfl, rfl⟩ <;> rw [h1] <;> rfl)) ?_
        repeat (first | refine Q.dyn rfl rfl rfl ?_ | refine Q.dyl rfl rfl rfl ?_ | refine D.y rfl rfl rfl (by kernel_rfl) (by first | exact (Y.ldRj rfl (by first | assumption | exact RdC.sub (by assumption)) rfl) | exact Y.guard rfl (Y.ldRj rfl (by first | assumption | exact RdC.sub (by assumption)) rfl)) ?_ | refine D.endA ?_ | refine Q.dp rfl rfl rfl ?_ | refine Q.dy rfl rfl rfl ?_ | refine D.end_ ?_ | refine Q.endH ?_ | (refine D.e rfl rfl rfl ?_; (first | refine S.gskip1 rfl ?_ | refine S.gskip rfl ?_ | refine S.y (Y.gskipU rfl) ?_); refine opsS_nil ?_; refine N.tn ?_) | refine Q.dT rfl rfl rfl ?_ | refine Q.dF rfl rfl rfl ?_ | (refine D.e rfl rfl rfl ?_; (first | (refine GQ.a ?_; refine Q.al (fun b1 => ?_)) | (refine GQ.s ?_; refine Q.st ?_)); refine opsS_nil ?_; refine N.tn ?_))
        refine Q.r ?_; (repeat (intro b1; refine Q.r ?_))
        refine swp_ent (jclose (p := p) (v := v) (sf := self) (dim := j.v.dim) (mp := mp) (md := md) (j := j) (ps := ps) hq rfl) ?_
        have hsl2 : SlM M2 pa pl.length 1 (pl.flatMap fun z => [I64 z]) := by rw [flat_I64]; exact hsl
        refine swp_cutB (σ := Unit) (fun _ => [(0, ptrJ p), (3, .pointer (some ⟨bw, 0, none⟩)), (11, .pointer (some ⟨b11, 0, none⟩)), (73, .slice (some ⟨b5, o5, none⟩) is.length ic), (74, .int .i64 is.length), (75, .int .i64 i)]) (fun _ => wH bw (H2 ++ X ++ YY ++ pl.flatMap packPart) :: pt b11 (cl e.cells 44) :: jurH M2 p j :: roM M2 :: L) (fun _ => True) ?_ ?_
        · refine swp_loop (σ := Nat) (fun m => [(0, ptrJ p), (3, .pointer (some ⟨bw, 0, none⟩)), (11, .pointer (some ⟨b11, 0, none⟩)), (73, .slice (some ⟨b5, o5, none⟩) is.length ic), (74, .int .i64 is.length), (75, .int .i64 i), (101, .slice pa pl.length pc), (102, .int .i64 pl.length), (103, .int .i64 m)])
            (fun m => wH bw (H2 ++ X ++ YY ++ (pl.take m).flatMap packPart) :: pt b11 (cl e.cells 44) :: jurH M2 p j :: roM M2 :: L) (fun m => m ≤ pl.length) (fun m => pl.length - m) 0 ⟨rfl, rfl, rfl, rfl, rfl, rfl, rfl, rfl, rfl, trivial⟩ (by simp only [List.take_zero, List.flatMap_nil, List.append_nil]; exact Go.SX.Ent.go) (by omega) ?_
          intro m hm
          by_cases hmt : m < pl.length
          · obtain ⟨z, hz⟩ := mem_get hmt
            obtain ⟨b7, o7, hia7, cr7⟩ := SlM.cm (g := fun z => [I64 z]) (fun _ => rfl) hsl2 hz rfl
            have hZl : ((pl.take m).flatMap packPart).length ≤ pl.length * 10 := take_le m (fun x _ => numI_len (u64_le _))
            have hnx : (pl.take (m + 1)).flatMap packPart = (pl.take m).flatMap packPart ++ packPart z := flat1 hz
            generalize hZ : ((pl.take m).flatMap packPart) = Z at hZl hnx ⊢
            rw [hia7]
            refine Q.r ?_; (repeat (intro b1; refine Q.r ?_))
            refine S.y (Y.cvi rfl) ?_
            refine Q.r ?_; (repeat (intro b1; refine Q.r ?_))
            refine S.c1 rfl (wNums_spec bw (H2 ++ X ++ YY ++ Z) (some ⟨b1, 0, none⟩) 1 [IntKind.u64.wrap z] _ (RdS.row1 rfl) (by intro y hy; rw [List.mem_singleton.1 hy]; exact u64_le _) (by simp only [List.length_append, List.length_cons, List.length_nil]; omega)) ?_
            rintro _ _ ⟨rfl, rfl⟩
            refine Q.r ?_; (repeat (intro b1; refine Q.r ?_))
            refine ⟨m + 1, ⟨rfl, rfl, rfl, rfl, rfl, rfl, by first | rfl | (rw [← hia7]; rfl), rfl, rfl, trivial⟩, ?_, by omega, by omega⟩
            rw [hnx]
            have e3 : H2 ++ X ++ YY ++ Z ++ [IntKind.u64.wrap z].flatMap numI = H2 ++ X ++ YY ++ (Z ++ packPart z) := by simp [packPart]
            rw [e3]
            exact Go.SX.Ent.go
          · have hme2 : m = pl.length := by omega
            subst hme2
            rw [List.take_length]
            refine Q.r ?_; (repeat (intro b1; refine Q.r ?_))
            exact ⟨(), ⟨rfl, rfl, rfl, rfl, rfl, rfl, trivial⟩, Ent.refl _, trivial⟩
        rintro _ _
        have hPl : (pl.flatMap packPart).length ≤ pl.length * 10 := flat_le fun x _ => numI_len (u64_le _)
        generalize hPP : pl.flatMap packPart = PP at hPl ⊢
        refine Q.r ?_; (repeat (intro b1; refine Q.r ?_))
        refine S.y (Y.cvi rfl) ?_
        rw [wrap_u64 (by omega) (by omega)]
        refine Q.r ?_; (repeat (intro b1; refine Q.r ?_))
        refine S.c1 rfl (wNums_spec bw (H2 ++ X ++ YY ++ PP) (some ⟨b1, 0, none⟩) 1 [(e.ops.length : Int)] _ (RdS.row1 rfl) (by intro z hz; rw [List.mem_singleton.1 hz]; omega) (by simp only [List.length_append, List.length_cons, List.length_nil]; omega)) ?_
        rintro _ _ ⟨rfl, rfl⟩
        obtain ⟨VV, hVV⟩ : ∃ VV, VV = [(e.ops.length : Int)].flatMap numI := ⟨_, rfl⟩
        have hVl : VV.length ≤ 10 := by
          rw [hVV]
          exact flat_le (c := 10) fun x hx => by
            refine numI_len ?_
            rw [List.mem_singleton.1 hx]; omega
        rw [← hVV]
        refine Q.r ?_; (repeat (intro b1; refine Q.r ?_))
        refine swp_loop (σ := Nat) (fun m => [(0, ptrJ p), (3, .pointer (some ⟨bw, 0, none⟩)), (73, .slice (some ⟨b5, o5, none⟩) is.length ic), (74, .int .i64 is.length), (75, .int .i64 i), (121, .slice e.a e.ops.length e.c), (122, .int .i64 e.ops.length), (123, .int .i64 m)])
          (fun m => wH bw (H2 ++ X ++ YY ++ PP ++ VV ++ (e.ops.take m).flatMap fun v => packVer v.abs) :: jurH M2 p j :: roM M2 :: L) (fun m => m ≤ e.ops.length) (fun m => e.ops.length - m) 0 ⟨rfl, rfl, rfl, rfl, rfl, rfl, rfl, rfl, trivial⟩ (by simp only [List.take_zero, List.flatMap_nil, List.append_nil]; exact Go.SX.Ent.go) (by omega) ?_
        intro m hm
        by_cases hmt : m < e.ops.length
        · obtain ⟨o, ho⟩ := mem_get hmt
          have hmo : o ∈ e.ops := List.mem_of_getElem? ho
          have hvv := hev.2.2.2 o hmo
          have hrv : SlM M2 o.a o.vec.length 1 (o.vec.map I32) := (hoI e hme).2 o hmo
          obtain ⟨b6, o6, hia6, cr6⟩ := SlM.cm (g := OV.cells) (fun _ => rfl) (hoI e hme).1 ho rfl
          have hZl : ((e.ops.take m).flatMap fun v => packVer v.abs).length ≤ e.ops.length * 100 := take_le m (fun u hu => packVer_len (hev.2.2.2 u hu).1 (hev.2.2.2 u hu).2)
          have hnx : (e.ops.take (m + 1)).flatMap (fun v => packVer v.abs) = (e.ops.take m).flatMap (fun v => packVer v.abs) ++ packVer o.abs := flat1 ho
          generalize hZ : ((e.ops.take m).flatMap fun v => packVer v.abs) = Z at hZl hnx ⊢
          have hn1 := numI_len hvv.1
          rw [hia6]
          refine Q.r ?_; (repeat (intro b1; refine Q.r ?_))
          refine Q.dgo [true] [3, 4, 7, 8] [] [0, 1, 2, 5, 6, 99999, 0, 0, 0] ?_
          repeat (first | refine D.endA ?_ | refine Q.dy rfl rfl rfl ?_ | refine Q.dp rfl rfl rfl ?_ | refine D.end_ ?_ | refine Q.endH ?_ | (refine D.e rfl rfl rfl ?_; (first | refine S.gskip1 rfl ?_ | refine S.gskip rfl ?_ | refine S.y (Y.gskipU rfl) ?_); refine opsS_nil ?_; refine N.tn ?_))
          refine D.two 3 7 [99999, 0, 0] [3, 4, 8] (by kernel_rfl) rfl rfl rfl rfl (by kernel_rfl) (by kernel_rfl) ?_ ?_
          · refine GQ.a ?_
            refine Q.al (fun bn => ?_)
            repeat (first | (refine GQ.y ?_; refine Q.y ?_) | refine Q.go ?_ | (refine GQ.g ?_; refine Q.gq ?_) | (refine GQ.s ?_; refine Q.st ?_))
            repeat (first | refine D.endA ?_ | refine Q.dy rfl rfl rfl ?_ | refine Q.dp rfl rfl rfl ?_ | refine D.end_ ?_ | refine Q.endH ?_ | (refine D.e rfl rfl rfl ?_; (first | refine S.gskip1 rfl ?_ | refine S.gskip rfl ?_ | refine S.y (Y.gskipU rfl) ?_); refine opsS_nil ?_; refine N.tn ?_))
            refine D.two 4 7 [7, 8] [4, 8] (by kernel_rfl) rfl rfl rfl rfl (by kernel_rfl) (by kernel_rfl) ?_ ?_
            · refine S.c1 rfl (wNums_spec bw (H2 ++ X ++ YY ++ PP ++ VV ++ Z) (some ⟨bn, 0, none⟩) 1 [o.id] _ (RdS.row1 rfl) (by intro z hz; rw [List.mem_singleton.1 hz]; omega) (by simp only [List.length_append, List.length_cons, List.length_nil]; omega)) ?_
              rintro _ _ ⟨rfl, rfl⟩
              repeat (first | (refine GQ.y ?_; refine Q.y ?_) | refine Q.go ?_ | (refine GQ.g ?_; refine Q.gq ?_) | (refine GQ.s ?_; refine Q.st ?_))
              repeat (first | refine D.endA ?_ | refine Q.dy rfl rfl rfl ?_ | refine Q.dp rfl rfl rfl ?_ | refine D.end_ ?_ | refine Q.endH ?_ | (refine D.e rfl rfl rfl ?_; (first | refine S.gskip1 rfl ?_ | refine S.gskip rfl ?_ | refine S.y (Y.gskipU rfl) ?_); refine opsS_nil ?_; refine N.tn ?_))
              refine D.e rfl rfl rfl ?_
              refine GQ.a ?_
              refine Q.al (fun bv => ?_)
              repeat (first | (refine GQ.y ?_; refine Q.y ?_) | refine Q.go ?_ | (refine GQ.g ?_; refine Q.gq ?_) | (refine GQ.s ?_; refine Q.st ?_))
              repeat (first | refine D.endA ?_ | refine Q.dy rfl rfl rfl ?_ | refine Q.dp rfl rfl rfl ?_ | refine D.end_ ?_ | refine Q.endH ?_ | (refine D.e rfl rfl rfl ?_; (first | refine S.gskip1 rfl ?_ | refine S.gskip rfl ?_ | refine S.y (Y.gskipU rfl) ?_); refine opsS_nil ?_; refine N.tn ?_))
              refine D.e rfl rfl rfl ?_
              refine S.c1 rfl (wVec_spec bw (H2 ++ X ++ YY ++ PP ++ VV ++ Z ++ [o.id].flatMap numI) bv 0 o.a o.c 1 o.vec _ (RdC.row) (hrv.rd) (by simp only [List.length_append, List.flatMap_cons, List.flatMap_nil, List.length_nil]; omega)) ?_
              rintro _ _ ⟨rfl, rfl⟩
              repeat (first | (refine GQ.y ?_; refine Q.y ?_) | refine Q.go ?_ | (refine GQ.g ?_; refine Q.gq ?_) | (refine GQ.s ?_; refine Q.st ?_))
              repeat (first | refine D.endA ?_ | refine Q.dy rfl rfl rfl ?_ | refine Q.dp rfl rfl rfl ?_ | refine D.end_ ?_ | refine Q.endH ?_ | (refine D.e rfl rfl rfl ?_; (first | refine S.gskip1 rfl ?_ | refine S.gskip rfl ?_ | refine S.y (Y.gskipU rfl) ?_); refine opsS_nil ?_; refine N.tn ?_))
              refine Q.rd ?_; (repeat (intro b1; refine Q.rd ?_))
              refine Q.r ?_; (repeat (intro b1; refine Q.r ?_))
              refine ⟨m + 1, ⟨rfl, rfl, rfl, rfl, rfl, by first | rfl | (rw [← hia6]; rfl), rfl, rfl, trivial⟩, ?_, by omega, by omega⟩
              rw [hnx]
              have e3 : H2 ++ X ++ YY ++ PP ++ VV ++ Z ++ [o.id].flatMap numI ++ vecI o.vec = H2 ++ X ++ YY ++ PP ++ VV ++ (Z ++ packVer o.abs) := by simp [packVer]
              rw [e3]
              exact Go.SX.Ent.go
            · refine GQ.a ?_
              refine Q.al (fun bv => ?_)
              repeat (first | (refine GQ.y ?_; refine Q.y ?_) | refine Q.go ?_ | (refine GQ.g ?_; refine Q.gq ?_) | (refine GQ.s ?_; refine Q.st ?_))
              repeat (first | refine D.endA ?_ | refine Q.dy rfl rfl rfl ?_ | refine Q.dp rfl rfl rfl ?_ | refine D.end_ ?_ | refine Q.endH ?_ | (refine D.e rfl rfl rfl ?_; (first | refine S.gskip1 rfl ?_ | refine S.gskip rfl ?_ | refine S.y (Y.gskipU rfl) ?_); refine opsS_nil ?_; refine N.tn ?_))
              refine D.e rfl rfl rfl ?_
              refine S.c1 rfl (wNums_spec bw (H2 ++ X ++ YY ++ PP ++ VV ++ Z) (some ⟨bn, 0, none⟩) 1 [o.id] _ (RdS.row1 rfl) (by intro z hz; rw [List.mem_singleton.1 hz]; omega) (by simp only [List.length_append, List.length_cons, List.length_nil]; omega)) ?_
              rintro _ _ ⟨rfl, rfl⟩
              repeat (first | (refine GQ.y ?_; refine Q.y ?_) | refine Q.go ?_ | (refine GQ.g ?_; refine Q.gq ?_) | (refine GQ.s ?_; refine Q.st ?_))
              repeat (first | refine D.endA ?_ | refine Q.dy rfl rfl rfl ?_ | refine Q.dp rfl rfl rfl ?_ | refine D.end_ ?_ | refine Q.endH ?_ | (refine D.e rfl rfl rfl ?_; (first | refine S.gskip1 rfl ?_ | refine S.gskip rfl ?_ | refine S.y (Y.gskipU rfl) ?_); refine opsS_nil ?_; refine N.tn ?_))
              refine D.e rfl rfl rfl ?_
              refine S.c1 rfl (wVec_spec bw (H2 ++ X ++ YY ++ PP ++ VV ++ Z ++ [o.id].flatMap numI) bv 0 o.a o.c 1 o.vec _ (RdC.row) (hrv.rd) (by simp only [List.length_append, List.flatMap_cons, List.flatMap_nil, List.length_nil]; omega)) ?_
              rintro _ _ ⟨rfl, rfl⟩
              repeat (first | (refine GQ.y ?_; refine Q.y ?_) | refine Q.go ?_ | (refine GQ.g ?_; refine Q.gq ?_) | (refine GQ.s ?_; refine Q.st ?_))
              repeat (first | refine D.endA ?_ | refine Q.dy rfl rfl rfl ?_ | refine Q.dp rfl rfl rfl ?_ | refine D.end_ ?_ | refine Q.endH ?_ | (refine D.e rfl rfl rfl ?_; (first | refine S.gskip1 rfl ?_ | refine S.gskip rfl ?_ | refine S.y (Y.gskipU rfl) ?_); refine opsS_nil ?_; refine N.tn ?_))
              refine Q.rd ?_; (repeat (intro b1; refine Q.rd ?_))
              refine Q.r ?_; (repeat (intro b1; refine Q.r ?_))
              refine ⟨m + 1, ⟨rfl, rfl, rfl, rfl, rfl, by first | rfl | (rw [← hia6]; rfl), rfl, rfl, trivial⟩, ?_, by omega, by omega⟩
              rw [hnx]
              have e3 : H2 ++ X ++ YY ++ PP ++ VV ++ Z ++ [o.id].flatMap numI ++ vecI o.vec = H2 ++ X ++ YY ++ PP ++ VV ++ (Z ++ packVer o.abs) := by simp [packVer]
              rw [e3]
              exact Go.SX.Ent.go
          · refine GQ.a ?_
            refine Q.al (fun bv => ?_)
            repeat (first | (refine GQ.y ?_; refine Q.y ?_) | refine Q.go ?_ | (refine GQ.g ?_; refine Q.gq ?_) | (refine GQ.s ?_; refine Q.st ?_))
            repeat (first | refine D.endA ?_ | refine Q.dy rfl rfl rfl ?_ | refine Q.dp rfl rfl rfl ?_ | refine D.end_ ?_ | refine Q.endH ?_ | (refine D.e rfl rfl rfl ?_; (first | refine S.gskip1 rfl ?_ | refine S.gskip rfl ?_ | refine S.y (Y.gskipU rfl) ?_); refine opsS_nil ?_; refine N.tn ?_))
            refine D.e rfl rfl rfl ?_
            refine GQ.a ?_
            refine Q.al (fun bn => ?_)
            repeat (first | (refine GQ.y ?_; refine Q.y ?_) | refine Q.go ?_ | (refine GQ.g ?_; refine Q.gq ?_) | (refine GQ.s ?_; refine Q.st ?_))
            repeat (first | refine D.endA ?_ | refine Q.dy rfl rfl rfl ?_ | refine Q.dp rfl rfl rfl ?_ | refine D.end_ ?_ | refine Q.endH ?_ | (refine D.e rfl rfl rfl ?_; (first | refine S.gskip1 rfl ?_ | refine S.gskip rfl ?_ | refine S.y (Y.gskipU rfl) ?_); refine opsS_nil ?_; refine N.tn ?_))
            refine D.e rfl rfl rfl ?_
            refine S.c1 rfl (wNums_spec bw (H2 ++ X ++ YY ++ PP ++ VV ++ Z) (some ⟨bn, 0, none⟩) 1 [o.id] _ (RdS.row1 rfl) (by intro z hz; rw [List.mem_singleton.1 hz]; omega) (by simp only [List.length_append, List.length_cons, List.length_nil]; omega)) ?_
            rintro _ _ ⟨rfl, rfl⟩
            repeat (first | (refine GQ.y ?_; refine Q.y ?_) | refine Q.go ?_ | (refine GQ.g ?_; refine Q.gq ?_) | (refine GQ.s ?_; refine Q.st ?_))
            repeat (first | refine D.endA ?_ | refine Q.dy rfl rfl rfl ?_ | refine Q.dp rfl rfl rfl ?_ | refine D.end_ ?_ | refine Q.endH ?_ | (refine D.e rfl rfl rfl ?_; (first | refine S.gskip1 rfl ?_ | refine S.gskip rfl ?_ | refine S.y (Y.gskipU rfl) ?_); refine opsS_nil ?_; refine N.tn ?_))
            refine D.e rfl rfl rfl ?_
            refine S.c1 rfl (wVec_spec bw (H2 ++ X ++ YY ++ PP ++ VV ++ Z ++ [o.id].flatMap numI) bv 0 o.a o.c 1 o.vec _ (RdC.row) (hrv.rd) (by simp only [List.length_append, List.flatMap_cons, List.flatMap_nil, List.length_nil]; omega)) ?_
            rintro _ _ ⟨rfl, rfl⟩
            repeat (first | (refine GQ.y ?_; refine Q.y ?_) | refine Q.go ?_ | (refine GQ.g ?_; refine Q.gq ?_) | (refine GQ.s ?_; refine Q.st ?_))
            repeat (first | refine D.endA ?_ | refine Q.dy rfl rfl rfl ?_ | refine Q.dp rfl rfl rfl ?_ | refine D.end_ ?_ | refine Q.endH ?_ | (refine D.e rfl rfl rfl ?_; (first | refine S.gskip1 rfl ?_ | refine S.gskip rfl ?_ | refine S.y (Y.gskipU rfl) ?_); refine opsS_nil ?_; refine N.tn ?_))
            refine Q.rd ?_; (repeat (intro b1; refine Q.rd ?_))
            refine Q.r ?_; (repeat (intro b1; refine Q.r ?_))
            refine ⟨m + 1, ⟨rfl, rfl, rfl, rfl, rfl, by first | rfl | (rw [← hia6]; rfl), rfl, rfl, trivial⟩, ?_, by omega, by omega⟩
            rw [hnx]
            have e3 : H2 ++ X ++ YY ++ PP ++ VV ++ Z ++ [o.id].flatMap numI ++ vecI o.vec = H2 ++ X ++ YY ++ PP ++ VV ++ (Z ++ packVer o.abs) := by simp [packVer]
            rw [e3]
            exact Go.SX.Ent.go
        · have hme2 : m = e.ops.length := by omega
          subst hme2
          rw [List.take_length]
          refine Q.r ?_; (repeat (intro b1; refine Q.r ?_))
          refine ⟨i + 1, ⟨rfl, rfl, rfl, rfl, rfl, trivial⟩, ?_, by omega, by omega⟩
          have e2 : H2 ++ (is.take (i + 1)).flatMap (fun e => packInt j.parts e.abs) = H2 ++ X ++ YY ++ PP ++ VV ++ e.ops.flatMap fun v => packVer v.abs := by
            rw [flat1 he, hX, hYY, hVV, ← hPP]
            show H2 ++ (X ++ (numI e.txn ++ numI e.after ++ numI (((lkL j.parts e.txn).getD []).length : Int) ++ ((lkL j.parts e.txn).getD []).flatMap packPart ++ numI ((e.ops.map OV.abs).length : Int) ++ (e.ops.map OV.abs).flatMap packVer)) = _
            rw [List.length_map, List.flatMap_map, hpl]
            simp only [List.append_assoc, List.flatMap_cons, List.flatMap_nil, List.append_nil]
          rw [e2]
          exact Go.SX.Ent.go
      · have hie : i = is.length := by omega
        subst hie
        rw [List.take_length]
        refine Q.r ?_; (repeat (intro b1; refine Q.r ?_))
        exact ⟨(), ⟨rfl, rfl, trivial⟩, Ent.refl _, trivial⟩
    · rintro _ _
      have hXE : (is.flatMap fun e => packInt j.parts e.abs).length ≤ is.length * 2000 := flat_le hpi
      obtain ⟨H3, hH3e⟩ : ∃ H3, H3 = H2 ++ is.flatMap fun e => packInt j.parts e.abs := ⟨_, rfl⟩
      have hH3 : H3.length ≤ 30000000 := by rw [hH3e, List.length_append]; omega
      rw [← hH3e]
      have hH3f : H3 = H2 ++ (srtM j.v.its).flatMap (packInt j.parts) := by rw [hH3e, ← hI, List.flatMap_map]
      have hdl : j.done.length ≤ 100 := Nat.le_trans hj.dl hk
      clear hXE hpi hvI hinI hsI hoI
      refine swp_jur p (fun v mp md self ps hq => ?_)
      refine Q.r ?_; (repeat (intro b1; refine Q.r ?_))
      refine S.y (Y.cvi rfl) ?_
      rw [wrap_u64 (by omega) (by omega)]
      refine Q.r ?_; (repeat (intro b1; refine Q.r ?_))
      refine S.c1 rfl (wNums_spec bw H3 (some ⟨b1, 0, none⟩) 1 [(j.done.length : Int)] _ (RdS.row1 rfl) (by intro z hz; rw [List.mem_singleton.1 hz]; omega) (by simp only [List.length_cons, List.length_nil]; omega)) ?_
      rintro _ _ ⟨rfl, rfl⟩
      obtain ⟨H4, hH4e⟩ : ∃ H4, H4 = H3 ++ [(j.done.length : Int)].flatMap numI := ⟨_, rfl⟩
      have hH4f : H4 = H3 ++ numI (j.done.length : Int) := by rw [hH4e]; simp
      have hH4 : H4.length ≤ 30000010 := by
        have := numI_len (z := (j.done.length : Int)) (by omega)
        rw [hH4f, List.length_append]; omega
      rw [← hH4e]
      refine Q.r ?_; (repeat (intro b1; refine Q.r ?_))
      refine opsS_ent (jclose (p := p) (v := v) (sf := self) (dim := j.v.dim) (mp := mp) (md := md) (j := j) (ps := ps) hq rfl) ?_
      refine S.cjn p rfl (JFin_spec M2 p j _ (by omega)) ?_
      rintro _ _ ⟨fa, fc, rfl, rfl⟩
      refine opsS_abs fa (fun M3 hl3 hs3 => ?_)
      refine opsS_jm p hl3 ?_
      obtain ⟨ks, hks⟩ : ∃ ks, ks = sortL (j.done.map (·.1)) := ⟨_, rfl⟩
      have hkl : ks.length = j.done.length := by rw [hks, sortL_len, List.length_map]
      rw [← hks, ← hkl, ← flat_U] at hs3
      have hku : ∀ t ∈ ks, t ≤ 18446744073709551615 := fun t ht => by
        rw [hks] at ht
        obtain ⟨d, hd, rfl⟩ := List.mem_map.1 ((sortL_perm _).mem_iff.1 ht)
        exact (hb.done d hd).1
      have hdu : ∀ t, (lkL j.done t).getD 0 ≤ 18446744073709551615 := fun t => by
        cases hz : lkL j.done t with
        | none => show (0 : Int) ≤ _; decide
        | some s => exact (hb.done _ (lk_memL hz)).2
      have hpd : ∀ t ∈ ks, (packDone j.done t).length ≤ 20 := fun t ht => by
        have h1 := numI_len (hku t ht)
        have h2 := numI_len (hdu t)
        rw [List.length_append]; omega
      rw [← hkl]
      refine Q.r ?_; (repeat (intro b1; refine Q.r ?_))
      refine swp_cutB (σ := Unit) (fun _ => [(3, .pointer (some ⟨bw, 0, none⟩))]) (fun _ => wH bw (H4 ++ ks.flatMap (packDone j.done)) :: jurH M3 p j :: roM M3 :: L) (fun _ => True) ?_ ?_
      · refine swp_loop (σ := Nat) (fun i => [(0, ptrJ p), (3, .pointer (some ⟨bw, 0, none⟩)), (148, .slice fa ks.length fc), (149, .int .i64 ks.length), (150, .int .i64 i)]) (fun i => wH bw (H4 ++ (ks.take i).flatMap (packDone j.done)) :: jurH M3 p j :: roM M3 :: L)
          (fun i => i ≤ ks.length) (fun i => ks.length - i) 0 ⟨rfl, rfl, rfl, rfl, rfl, trivial⟩ (by simp only [List.take_zero, List.flatMap_nil, List.append_nil]; exact Go.SX.Ent.go) (by omega) ?_
        intro i hi
        by_cases hlt : i < ks.length
        · obtain ⟨t, ht⟩ := mem_get hlt
          have hmt : t ∈ ks := List.mem_of_getElem? ht
          have htu := hku t hmt
          have hdt := hdu t
          obtain ⟨b5, o5, hia5, cr5⟩ := SlM.cm (g := cU) (fun _ => rfl) hs3 ht rfl
          have hXl : ((ks.take i).flatMap (packDone j.done)).length ≤ ks.length * 20 := take_le i hpd
          have hnx : (ks.take (i + 1)).flatMap (packDone j.done) = (ks.take i).flatMap (packDone j.done) ++ packDone j.done t := flat1 ht
          generalize hX : (ks.take i).flatMap (packDone j.done) = X at hXl hnx ⊢
          rw [hia5]
          refine swp_jur p (fun v mp md self ps hq => ?_)
          refine Q.r ?_; (repeat (intro b1; refine Q.r ?_))
          refine S.y (Ycast (v' := .int .u64 ((lkL j.done t).getD 0)) (Y.lk false rfl rfl (fun w => Tryz.zeroValue30 w)) (by cases lkL j.done t <;> rfl)) ?_
          refine Q.r ?_; (repeat (intro b1; refine Q.r ?_))
          refine S.c1 rfl (wNums_spec bw (H4 ++ X) (some ⟨b1, 0, none⟩) 2 [t, (lkL j.done t).getD 0] _ (RdS.row1 rfl) (by intro z hz; rcases (by simpa using hz : z = t ∨ z = (lkL j.done t).getD 0) with rfl | rfl <;> assumption) (by simp only [List.length_append, List.length_cons, List.length_nil]; omega)) ?_
          rintro _ _ ⟨rfl, rfl⟩
          refine Q.r ?_; (repeat (intro b1; refine Q.r ?_))
          refine ⟨i + 1, ⟨rfl, rfl, by first | rfl | (rw [← hia5]; rfl), rfl, rfl, trivial⟩, ?_, by omega, by omega⟩
          refine Ent.trans (jclose (p := p) (v := v) (sf := self) (dim := j.v.dim) (mp := mp) (md := md) (j := j) (ps := ps) hq rfl) ?_
          rw [hnx]
          have e3 : H4 ++ X ++ [t, (lkL j.done t).getD 0].flatMap numI = H4 ++ (X ++ packDone j.done t) := by simp [packDone]
          rw [e3]
          exact Go.SX.Ent.go
        · have hie : i = ks.length := by omega
          subst hie
          rw [List.take_length]
          refine Q.r ?_; (repeat (intro b1; refine Q.r ?_))
          exact ⟨(), ⟨rfl, trivial⟩, Ent.refl _, trivial⟩
      · rintro _ _
        have hfin : H4 ++ ks.flatMap (packDone j.done) = packV j := by
          unfold packV
          rw [hH4f, hH3f, hH2f, hH1f, hks]
        have hfl : (H4 ++ ks.flatMap (packDone j.done)).length ≤ 140737488355328 := by
          have : (ks.flatMap (packDone j.done)).length ≤ ks.length * 20 := flat_le hpd
          rw [List.length_append]; omega
        rw [hfin] at hfl ⊢
        refine Q.r ?_; (repeat (intro b1; refine Q.r ?_))
        refine S.c1 rfl (wBytes_spec bw (packV j) _ hfl) ?_
        rintro _ _ ⟨ra, rc, rfl, rfl⟩
        refine Q.r ?_; (repeat (intro b1; refine Q.r ?_))
        refine N.r1 (RV.tmp rfl RV.nil) ?_ ⟨ra, rc, M3, rfl, hl1.trans (hl2.trans hl3), rfl⟩
        exact Go.SX.Ent.go
end Go.Proofs.YtjidejcehmamkaaGreatDoor
namespace Go.Proofs.YtjidejcehmamkaaGreatDoor
open Go Go.SX
attribute [local irreducible] swp opsS thenS blockS retS CallsS St Ent YieldS anyS drawS
set_option maxHeartbeats 400000 in
theorem RSameB_spec (a a' : Option Addr) (c c' : Nat) (p q : List UInt8) (L : List HP) (h : RdS L a p.length 1 (p.map B)) (h' : RdS L a' q.length 1 (q.map B)) :
    CallsS Tryz.prog 22 [.slice a p.length c, .slice a' q.length c'] L (fun v L' => v = .bool (decide (p = q)) ∧ L' = L) := by
  refine CallsS.of_body Tryz.func22 rfl rfl rfl ?_
  repeat (first | (refine GQ.y ?_; refine Q.y ?_) | refine Q.go ?_ | (refine GQ.g ?_; refine Q.gq ?_) | (refine GQ.s ?_; refine Q.st ?_))
  refine S.y (by refine Y.b2s (bs := p) (by rfl) ?_; exact h.sub) ?_
  repeat (first | (refine GQ.y ?_; refine Q.y ?_) | refine Q.go ?_ | (refine GQ.g ?_; refine Q.gq ?_) | (refine GQ.s ?_; refine Q.st ?_))
  refine S.y (by refine Y.b2s (bs := q) (by rfl) ?_; exact h'.sub) ?_
  repeat (first | (refine GQ.y ?_; refine Q.y ?_) | refine Q.go ?_ | (refine GQ.g ?_; refine Q.gq ?_) | (refine GQ.s ?_; refine Q.st ?_))
  try refine S.y (Y.eqst (a := p) (b := q) rfl rfl) ?_
  repeat (first | (refine GQ.y ?_; refine Q.y ?_) | refine Q.go ?_ | (refine GQ.g ?_; refine Q.gq ?_) | (refine GQ.s ?_; refine Q.st ?_))
  refine N.r1 (RV.tmp rfl RV.nil) (Ent.refl _) ⟨rfl, rfl⟩
theorem backL_spec (a : Option Addr) (c l : Nat) (ms : List (Int × NV)) (A : List HP) (e : l = ms.length) (h : RdS A a ms.length 17 (ms.flatMap mcells)) (hn : l ≤ 1) :
    CallsS Tryz.prog 21 [.slice a l c] A (fun r L' => ∃ a' c', r = .slice a' l c' ∧ L' = slO 135 17 a' l c' (ms.flatMap mcells) :: A) := by
  subst e
  exact back_spec a c ms A h (by omega)
theorem SameMailL_spec (a : Option Addr) (c l : Nat) (xs : List (Int × NV)) (a' : Option Addr) (c' : Nat) (A : List HP) (e : l = xs.length) (h : RdMs A a xs) (h' : RdMs A a' xs) (hn : l ≤ 1) :
    CallsS Tryz.prog 20 [.slice a l c, .slice a' l c'] A (fun v L' => v = .bool true ∧ L' = A) := by
  subst e
  exact SameMail_spec a c xs a' c' xs A h h' (by omega) rfl
set_option maxHeartbeats 8000000 in
theorem JurorAgain_spec (a : Option Addr) (c : Nat) (xs : List EO) (og : EO) (M : Nat → Option Obj) (h : SlM M a xs.length 21 (xs.flatMap EO.cells)) (hx : ∀ o ∈ xs, EOK M o) (hn : xs.length ≤ 9223372036854775807) (hog : EOK M og) (hT : TabM M) :
    CallsS Tryz.prog 5 [.slice a xs.length c, .agg og.cells.toArray] [roM M] (fun r _ => r = .bool true) := by
  refine CallsS.of_body Tryz.func5 rfl rfl rfl ?_
  refine Q.r ?_; (repeat (intro b1; refine Q.r ?_))
  revert b1
  intro b3
  refine S.c1 rfl (awake14_spec M _ hT) ?_
  rintro _ _ ⟨M1, rfl, hl1, rfl⟩
  refine Q.r ?_; (repeat (intro b1; refine Q.r ?_))
  refine S.cr rfl (JNew_spec M1 2 2 _ (by decide) (by decide) (by decide) (by decide)) ?_
  rintro _ _ ⟨p, rfl, rfl⟩
  refine Q.r ?_; (repeat (intro b1; refine Q.r ?_))
  refine S.cr rfl (RNew_spec 2 2 _ (by decide) (by decide)) ?_
  rintro _ _ ⟨x, rfl, rfl⟩
  refine Q.r ?_; (repeat (intro b1; refine Q.r ?_))
  refine swp_cutB (σ := JS × (Nat → Option Obj)) (fun s => [(3, .pointer (some ⟨b3, 0, none⟩)), (5, ptrJ p)]) (fun s => pt b3 (cl og.cells 38) :: jurH s.2 p s.1 :: roM s.2 :: []) (fun s => JOW s.1 30 ∧ JPK s.1 ∧ leM M1 s.2) ?_ ?_
  · refine swp_loop (σ := Nat × JS × (Nat → Option Obj)) (fun s => [(3, .pointer (some ⟨b3, 0, none⟩)), (5, ptrJ p), (7, .pointer (some ⟨x, 0, none⟩)), (23, .slice a xs.length c), (24, .int .i64 xs.length), (25, .int .i64 s.1)])
      (fun s => pt b3 (cl og.cells 38) :: jurH s.2.2 p s.2.1 :: rjH x s.2.1 :: roM s.2.2 :: []) (fun s => s.1 ≤ xs.length ∧ JOW s.2.1 (min s.1 30) ∧ JPK s.2.1 ∧ leM M1 s.2.2) (fun s => xs.length - s.1) (0, J0 2, M1) ⟨rfl, rfl, rfl, rfl, rfl, rfl, trivial⟩ (by exact Go.SX.Ent.go) ⟨by omega, JOW.zero (by decide) (by decide), JPK.zero, leM.refl M1⟩ ?_
    rintro ⟨k, j, M2⟩ ⟨hk1, hj, hd, hl2⟩
    dsimp only at hk1 hj hd hl2 ⊢
    by_cases hlt : k < xs.length
    · obtain ⟨o, ho⟩ := mem_get hlt
      have hmo : o ∈ xs := List.mem_of_getElem? ho
      have hl12 := hl1.trans hl2
      obtain ⟨b, oo, hab, cr⟩ := SlM.cm (g := EO.cells) (fun _ => rfl) (h.mono hl12) ho rfl
      rw [hab]
      by_cases h30 : 30 ≤ k
      · refine Q.r ?_; (repeat (intro b1; refine Q.r ?_))
        refine ⟨(k + 1, j, M2), ⟨rfl, rfl, rfl, rfl, rfl, rfl, trivial⟩, by exact Go.SX.Ent.go, ⟨by dsimp only; omega, hj.le (by dsimp only; omega), hd, hl2⟩, by dsimp only; omega⟩
      · have hm : min k 30 = k := by omega
        rw [hm] at hj
        refine Q.r ?_; (repeat (intro b1; refine Q.r ?_))
        have ho2 : EOK M2 o := (hx o hmo).mono hl12
        refine S.c3 (args := [ptrJ p, .pointer (some ⟨x, 0, none⟩), .agg o.cells.toArray]) rfl (step_spec o p x j k M2 _ hj (by omega) ho2 (hT.mono hl12)) ?_
        rintro _ _ ⟨M4, rfl, hl4, rfl⟩
        have huf : NumA o.n.abs.few := ⟨(hx o hmo).uu.kind, (hx o hmo).uu.txn, (hx o hmo).uu.batch, (hx o hmo).uu.stamp, (hx o hmo).uu.after, (hx o hmo).uu.mark, (hx o hmo).uu.query, (hx o hmo).uu.id, (hx o hmo).uu.k, (hx o hmo).uu.ef, (hx o hmo).uu.code, (hx o hmo).uu.who⟩
        have hj2 : JOW (stepS j o.fr o.n.abs.few o.w o.r) (k + 1) := hj.step (n := o.n.abs.few) (hx o hmo).uu.txn.1 (hx o hmo).uu.stamp.1 o.fr o.w o.r
        have hd2 : JPK (stepS j o.fr o.n.abs.few o.w o.r) := hd.step hj huf o.fr o.w o.r
        generalize stepS j o.fr o.n.abs.few o.w o.r = j2 at hj2 hd2 ⊢
        refine Q.r ?_; (repeat (intro b1; refine Q.r ?_))
        refine ⟨(k + 1, j2, M4), ⟨rfl, rfl, rfl, rfl, rfl, rfl, trivial⟩, by exact Go.SX.Ent.go, ⟨by dsimp only; omega, hj2.le (by dsimp only; omega), hd2, hl2.trans hl4⟩, by dsimp only; omega⟩
    · have hke : k = xs.length := by omega
      subst hke
      refine Q.r ?_; (repeat (intro b1; refine Q.r ?_))
      exact ⟨(j, M2), ⟨rfl, rfl, trivial⟩, by exact Go.SX.Ent.go, hj.le (by omega), hd, hl2⟩
  · rintro ⟨j, M2⟩ ⟨hj, hd, hl2⟩
    dsimp only at hj hd hl2 ⊢
    have hl12 := hl1.trans hl2
    refine Q.r ?_; (repeat (intro b1; refine Q.r ?_))
    refine S.cm (args := [og.n.val]) rfl (NFew_spec og.n M2 _ (hog.n.mono hl12) hog.c) ?_
    rintro _ _ ⟨n1, M3, rfl, hl3, hn1, hc1, hoc1, he1, rfl⟩
    have hN1 := few_OkN he1
    have hu1 := hog.u.few he1
    have hua1 : NumA n1.abs := NumA.few hog.uu he1
    refine opsS_jm p hl3 ?_
    have hT3 : TabM M3 := hT.mono (hl12.trans hl3)
    refine Q.r ?_; (repeat (intro b1; refine Q.r ?_))
    revert b1
    intro b10
    refine S.cj p (args := [ptrJ p, .int .i64 og.fr, n1.val]) rfl (Plan_spec n1 M3 p j 30 og.fr _ hj.w (by omega) hj.ne hn1 hN1 hT3 hu1.kind) ?_
    rintro _ _ ⟨ra, rc, ma, mc, ea, ec, M4, rfl, hl4, rfl⟩
    have hone := plan_one hj (n := n1.abs) hua1.txn.1 og.fr
    have hag := again hj (n := n1.abs) hua1.txn.1 og.fr
    have hpl := plan_len (j := j) (f := og.fr) (n := n1.abs)
    generalize planV j og.fr n1.abs = pl at hone hag hpl ⊢
    refine opsS_abs ra (fun M5 hl5 hs5 => ?_)
    refine opsS_abs ma (fun M6 hl6 hs6 => ?_)
    refine opsS_jm p (hl5.trans hl6) ?_
    have hlr : pl.rec_.length ≤ 1 := by rcases hone with h | ⟨r, h, _⟩ <;> (rw [h]; simp)
    have hl36 := hl4.trans (hl5.trans hl6)
    refine Q.r ?_; (repeat (intro b1; refine Q.r ?_))
    revert b1
    intro b11
    refine swp_cutB (σ := JS × (Nat → Option Obj)) (fun s => [(3, .pointer (some ⟨b3, 0, none⟩)), (5, ptrJ p), (10, .pointer (some ⟨b10, 0, none⟩)), (11, .pointer (some ⟨b11, 0, none⟩))]) (fun s => pt b11 (cl [.slice ra pl.rec_.length rc, .slice ma pl.mail.length mc, .slice ea pl.els.length ec] 55) :: pt b10 (cl n1.cells 57) :: pt b3 (cl og.cells 38) :: jurH s.2 p s.1 :: roM s.2 :: []) (fun s => s.1 = pl.rec_.foldl appS j ∧ JOW s.1 31 ∧ JPK s.1 ∧ leM M6 s.2) ?_ ?_
    · refine swp_loop (σ := Nat × JS × (Nat → Option Obj)) (fun s => [(3, .pointer (some ⟨b3, 0, none⟩)), (5, ptrJ p), (10, .pointer (some ⟨b10, 0, none⟩)), (11, .pointer (some ⟨b11, 0, none⟩)), (49, .slice ra pl.rec_.length rc), (50, .int .i64 pl.rec_.length), (51, .int .i64 s.1)])
        (fun s => pt b11 (cl [.slice ra pl.rec_.length rc, .slice ma pl.mail.length mc, .slice ea pl.els.length ec] 55) :: pt b10 (cl n1.cells 57) :: pt b3 (cl og.cells 38) :: jurH s.2.2 p s.2.1 :: roM s.2.2 :: [])
        (fun s => s.1 ≤ pl.rec_.length ∧ ((s.1 = 0 ∧ s.2 = (j, M6)) ∨ (s.1 = 1 ∧ s.2.1 = pl.rec_.foldl appS j ∧ JOW s.2.1 31 ∧ JPK s.2.1 ∧ leM M6 s.2.2))) (fun s => pl.rec_.length - s.1) (0, j, M6) ⟨rfl, rfl, rfl, rfl, rfl, rfl, rfl, trivial⟩ (by exact Go.SX.Ent.go) ⟨Nat.zero_le _, .inl ⟨rfl, rfl⟩⟩ ?_
      rintro ⟨q, j2, M7⟩ ⟨hq1, hq2⟩
      dsimp only at hq1 hq2 ⊢
      by_cases hqt : q < pl.rec_.length
      · have hq0 : q = 0 := by omega
        subst hq0
        rcases hq2 with ⟨_, hq2⟩ | ⟨h, _⟩
        case inr => cases h
        cases hq2
        rcases hone with h | ⟨r, h, hE, htx2, hrt, hsh⟩
        · rw [h] at hqt; cases hqt
        obtain ⟨br, or, hra, cr⟩ := SlM.cm (g := fun r => (liftN n1 r).cells) (k := 0) (x := r) (fun _ => rfl) (hs5.mono hl6) (by rw [h]; rfl) rfl
        have hro := rec_ok (n2 := n1) (n1 := n1) rfl hua1 hrt (f := og.fr) hsh
        have hn16 : okN M6 n1 := hn1.mono hl36
        rw [hra]
        refine Q.r ?_; (repeat (intro b1; refine Q.r ?_))
        refine S.cj p rfl (Apply_spec' (liftN n1 r) M6 p j 30 _ hj.w (by omega) (hn16.lift r) (hN1.lift r) (hT3.mono hl36) hro.n2) ?_
        rintro _ _ ⟨M7, rfl, hl7, rfl⟩
        rw [hro.e1, hE]
        refine Q.r ?_; (repeat (intro b1; refine Q.r ?_))
        have hst : 0 ≤ r.stamp := by
          have := hro.n2.stamp
          rw [show (liftN n1 r).stamp = r.stamp from congrArg NA.stamp hro.e1] at this
          exact this
        have hur : NumA r := by have := hro.u1; rw [hro.e2] at this; exact this
        refine ⟨(1, appS j r, M7), ⟨rfl, rfl, rfl, rfl, rfl, rfl, rfl, trivial⟩, by dsimp only; exact Go.SX.Ent.go, ⟨hqt, .inr ⟨rfl, by dsimp only; rw [h, foldl_one], hj.app hst, hd.app hj hur, hl7⟩⟩, by dsimp only; omega⟩
      · refine Q.r ?_; (repeat (intro b1; refine Q.r ?_))
        refine ⟨(j2, M7), ⟨rfl, rfl, rfl, rfl, trivial⟩, by exact Go.SX.Ent.go, ?_⟩
        dsimp only
        rcases hq2 with ⟨h0, hq2⟩ | ⟨_, hq2⟩
        · cases hq2
          have hr0 : pl.rec_ = [] := List.eq_nil_of_length_eq_zero (by omega)
          exact ⟨by rw [hr0]; rfl, hj.le (by omega), hd, leM.refl _⟩
        · exact hq2
    rintro ⟨j2, M7⟩ ⟨hj2e, hj2, hd2, hl7⟩
    dsimp only at hj2e hj2 hd2 hl7 ⊢
    rw [← hj2e] at hag
    have hl37 := hl36.trans hl7
    refine Q.r ?_; (repeat (intro b1; refine Q.r ?_))
    refine S.cj p rfl (JPack_spec M7 p j2 31 _ hj2 (by omega) hd2) ?_
    rintro _ _ ⟨wa, wc, M8, rfl, hl8, rfl⟩
    refine opsS_abs wa (fun M9 hl9 hs9 => ?_)
    refine opsS_jm p hl9 ?_
    have hl79 := hl8.trans hl9
    have hn19 : okN M9 n1 := hn1.mono (hl37.trans hl79)
    refine Q.r ?_; (repeat (intro b1; refine Q.r ?_))
    refine S.cj p (args := [ptrJ p, .int .i64 og.fr, n1.val]) rfl (Plan_spec n1 M9 p j2 31 og.fr _ hj2.w (by omega) hj2.ne hn19 hN1 (hT3.mono (hl37.trans hl79)) hu1.kind) ?_
    rintro _ _ ⟨rb, rd, mb, md, eb, ed, Ma, rfl, hla, rfl⟩
    generalize planV j2 og.fr n1.abs = p2 at hag ⊢
    obtain ⟨hg1, hg2, hg3⟩ := hag
    refine opsS_abs mb (fun Mb hlb hsb => ?_)
    refine opsS_jm p hlb ?_
    have hr0 : p2.rec_.length = 0 := by rw [hg1]; rfl
    refine Q.r ?_; (repeat (intro b1; refine Q.r ?_))
    revert b1
    intro b15
    have hs6b : SlM Mb ma pl.mail.length 17 (pl.mail.flatMap mailC) := hs6.mono (hl7.trans (hl79.trans (hla.trans hlb)))
    rw [hr0]
    by_cases hkc : n1.kind = 5 ∧ n1.code ≠ 0
    · have hm0 : p2.mail.length = 0 := by rw [hg2 hkc]; rfl
      rw [hm0]
      have hk5 := hkc.1
      have hc5 := hkc.2
      refine Q.r ?_; (repeat (intro b1; refine Q.r ?_))
      exact N.r1 (RV.tmp rfl RV.nil) (by exact Go.SX.Ent.go) rfl
    · have hm2 : p2.mail = pl.mail := hg3 hkc
      rw [hm2] at hsb
      rw [hm2]
      by_cases hk5 : n1.kind = 5
      case' pos => have hc5 : n1.code = 0 := Classical.byContradiction (fun h => hkc ⟨hk5, h⟩)
      all_goals refine Q.r ?_; (repeat (intro b1; refine Q.r ?_))
      all_goals
        refine Q.dgo [true, false, false, false, false, true] [7, 10, 11, 15, 17] [] [0, 1, 2, 3, 4, 5, 6, 8, 9, 7, 10, 11, 12, 13, 14, 16, 15, 17, 18, 19] ?_
        refine Q.rd ?_; (repeat (intro b1; refine Q.rd ?_))
        refine D.e rfl rfl rfl ?_
        refine S.guard rfl ?_
        refine S.cr (args := [.slice ma pl.mail.length mc]) rfl (backL_spec ma mc pl.mail.length (pl.mail.map nvm) _ (List.length_map _).symm (mail_rdS hs6b) hpl.1) ?_
        rintro _ _ ⟨xa, xc, rfl, rfl⟩
        refine opsS_abs xa (fun Mc hlc hsx => ?_)
        refine opsS_jm p hlc ?_
        refine Q.r ?_; (repeat (intro b1; refine Q.r ?_))
        refine Q.rd ?_; (repeat (intro b1; refine Q.rd ?_))
        refine D.e rfl rfl rfl ?_
        refine S.guard rfl ?_
        refine S.cr (args := [.slice mb pl.mail.length md]) rfl (backL_spec mb md pl.mail.length (pl.mail.map nvm) _ (List.length_map _).symm (mail_rdS (hsb.mono hlc)) hpl.1) ?_
        rintro _ _ ⟨ya, yc, rfl, rfl⟩
        refine opsS_abs ya (fun Md hld hsy => ?_)
        refine opsS_jm p hld ?_
        refine Q.r ?_; (repeat (intro b1; refine Q.r ?_))
        refine Q.rd ?_; (repeat (intro b1; refine Q.rd ?_))
        refine D.e rfl rfl rfl ?_
        refine S.guard rfl ?_
        refine S.cr (args := [.slice xa pl.mail.length xc, .slice ya pl.mail.length yc]) rfl (SameMailL_spec xa xc pl.mail.length (pl.mail.map nvm) ya yc _ (List.length_map _).symm (mails_rd (hsx.mono hld)) (mails_rd hsy) hpl.1) ?_
        rintro _ _ ⟨rfl, rfl⟩
        refine Q.r ?_; (repeat (intro b1; refine Q.r ?_))
        refine Q.rd ?_; (repeat (intro b1; refine Q.rd ?_))
        refine D.e rfl rfl rfl ?_
        refine S.guard rfl ?_
        refine S.cj p rfl (JPack_spec Md p j2 31 _ hj2 (by omega) hd2) ?_
        rintro _ _ ⟨wb, wd, Me, rfl, hle, rfl⟩
        refine opsS_abs wb (fun Mf hlf hsf => ?_)
        refine opsS_jm p hlf ?_
        refine Q.r ?_; (repeat (intro b1; refine Q.r ?_))
        refine Q.rd ?_; (repeat (intro b1; refine Q.rd ?_))
        refine D.e rfl rfl rfl ?_
        refine S.guard rfl ?_
        refine S.cr rfl (RSameB_spec wb wa wd wc (packV j2) (packV j2) _ hsf.rd (hs9.mono (hla.trans (hlb.trans (hlc.trans (hld.trans (hle.trans hlf)))))).rd) ?_
        rintro _ _ ⟨rfl, rfl⟩
        refine Q.r ?_; (repeat (intro b1; refine Q.r ?_))
        refine Q.rd ?_; (repeat (intro b1; refine Q.rd ?_))
        refine Q.r ?_; (repeat (intro b1; refine Q.r ?_))
        exact N.r1 (RV.tmp rfl RV.nil) (by exact Go.SX.Ent.go) (congrArg Value.bool (decide_eq_true rfl))
end Go.Proofs.YtjidejcehmamkaaGreatDoor
