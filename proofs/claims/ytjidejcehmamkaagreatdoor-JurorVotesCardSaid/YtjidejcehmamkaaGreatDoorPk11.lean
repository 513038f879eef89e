/- The ref's juror: Apply. Plans as the document has them; lists of notes, alike. JurorOnce: the walk. The juror's step, with the document's. JurorLocks: the walk. JurorVotes: the walk. Readings opened: from what the arguments read as to cells that stay; rows. The readings of the vault's ops. The readings of the vault's steps. No condition. -/
import Derived.ReadAgain
import Derived.ChangeArms
import Derived.WideShapes
import Derived.KernelRfl
import Derived.Test.YtjidejcehmamkaaGreatDoorRows
import Derived.WalkKit
import Derived.ProofKit
import Derived.OpenShut
import Derived.DataShut
import Derived.Test.YtjidejcehmamkaaGreatDoorPk10
set_option linter.unusedVariables false
set_option linter.unusedSimpArgs false
set_option linter.unusedSectionVars false
namespace Go.Proofs.YtjidejcehmamkaaGreatDoor
open Go Go.SX
attribute [local irreducible] swp opsS thenS blockS retS CallsS St Ent YieldS anyS drawS
section
variable {n : Nat} {ops rest : List Oper} {cd : Code} {Q : Post} {f : Env} {L L0 : List HP}
theorem swp_front (A : HP) [h : Pick A L L0] (hk : swp Tryz.prog n cd Q f (A :: L0)) : swp Tryz.prog n cd Q f L := swp_ent h.ent hk
end
theorem putL_perm {α : Type} {m : List (Int × α)} (h : keysOK m) (t : Int) (a : α) : (delL m t ++ [(t, a)]).Perm (putL m t a) := by
  rcases keyCase m h t with ⟨p, b, q, rfl, hp, hq⟩ | hn
  · rw [putL_mid hp hq]
    have e : delL (p ++ (t, b) :: q) t = p ++ q := by
      unfold delL
      rw [List.filter_append, List.filter_eq_self.2 (fun u hu => by simpa using hp u hu), List.filter_cons, if_neg (by simp), List.filter_eq_self.2 (fun u hu => by simpa using hq u hu)]
    rw [e, List.append_assoc]
    exact List.Perm.append_left p List.perm_append_comm
  · rw [putL_none hn, delL_none hn]
theorem insD_perm {ds done : List (Int × Int)} (hp : ds.Perm done) (hk : keysOK done) (d : Int × Int) : (insD ds d).Perm (putL done d.1 d.2) := by
  refine List.Perm.trans ?_ (putL_perm hk d.1 d.2)
  have h1 : (delL ds d.1).Perm (delL done d.1) := hp.filter _
  refine List.Perm.trans ?_ (h1.append_right _)
  unfold insD
  refine List.Perm.trans List.perm_middle ?_
  refine List.Perm.trans ?_ (List.perm_append_comm (l₁ := [(d.1, d.2)]))
  refine List.Perm.cons _ ?_
  have h2 : delL ds d.1 = ds.filter fun u => decide (u.1 < d.1) || decide (d.1 < u.1) := by
    unfold delL
    refine List.filter_congr fun u _ => ?_
    by_cases h : u.1 = d.1
    · simp [h]
    · simp [h]; omega
  rw [h2]
  clear h1 h2 hp
  induction ds with
  | nil => simp
  | cons u ds ih =>
    rw [List.filter_cons, List.filter_cons, List.filter_cons]
    by_cases h : u.1 < d.1
    · have h3 : ¬ d.1 < u.1 := by omega
      simp only [h, h3, decide_true, decide_false, Bool.true_or, if_true, List.cons_append]
      exact List.Perm.cons _ ih
    · by_cases h3 : d.1 < u.1
      · simp only [h, h3, decide_true, decide_false, Bool.or_true, if_true]
        exact List.Perm.trans List.perm_middle (List.Perm.cons _ ih)
      · simp only [h, h3, decide_false, Bool.or_false, if_false]
        exact ih
theorem insD_sorted {ds : List (Int × Int)} (hs : (ds.map (·.1)).Pairwise (· < ·)) (d : Int × Int) : ((insD ds d).map (·.1)).Pairwise (· < ·) := by
  unfold insD
  rw [List.map_append, List.map_cons, List.pairwise_append]
  refine ⟨pw_filter (key := fun u : Int × Int => u.1) hs _, ?_, ?_⟩
  · rw [List.pairwise_cons]
    refine ⟨fun x hx => ?_, pw_filter (key := fun u : Int × Int => u.1) hs _⟩
    obtain ⟨u, hu, rfl⟩ := List.mem_map.1 hx
    simpa using (List.mem_filter.1 hu).2
  · intro x hx y hy
    obtain ⟨u, hu, rfl⟩ := List.mem_map.1 hx
    have h1 : u.1 < d.1 := by simpa using (List.mem_filter.1 hu).2
    rcases List.mem_cons.1 hy with rfl | hy
    · exact h1
    · obtain ⟨w, hw, rfl⟩ := List.mem_map.1 hy
      have h2 : d.1 < w.1 := by simpa using (List.mem_filter.1 hw).2
      omega
theorem RJOK.setP {M M2 : Nat → Option Obj} {j j' : JS} {sf : Int} {pa pa2 : Option Addr} {pc pc2 : Nat} {ps : List QV} {da : Option Addr} {dc : Nat} {ds : List (Int × Int)} (h : RJOK M j sf pa pc ps da dc ds) (hl : leM M M2) {t : Int} {a5 : Option Addr} {c5 : Nat} {l : List Int} (h5 : SlM M2 a5 l.length 1 (l.map I64)) (hj : j'.parts = putL j.parts t l) (hd : j'.done = j.done)
    (hs : SlM M2 pa2 ((ps.filter fun u : QV => !decide (u.txn = t)) ++ [(⟨t, a5, c5, l⟩ : QV)]).length 2 (((ps.filter fun u => !decide (u.txn = t)) ++ [(⟨t, a5, c5, l⟩ : QV)]).flatMap QV.cells)) : RJOK M2 j' sf pa2 pc2 ((ps.filter fun u : QV => !decide (u.txn = t)) ++ [(⟨t, a5, c5, l⟩ : QV)]) da dc ds := by
  refine ⟨h.s1, h.s2, ?_, fun u hu => ?_, hs, hd ▸ h.dp, h.sd, h.dS.mono hl, h.dc, hj ▸ putL_ok h.kp _ _, hd ▸ h.kd⟩
  · rw [hj, List.map_append]
    refine List.Perm.trans (List.Perm.append_right _ ?_) (putL_perm h.kp t l)
    have := h.pp.filter (fun u : Int × List Int => !decide (u.1 = t))
    rw [List.filter_map] at this
    exact this
  · rcases List.mem_append.1 hu with hu | hu
    · exact (h.po u (List.mem_filter.1 hu).1).mono hl
    · rw [List.mem_singleton.1 hu]
      exact h5
theorem RJOK.delP {M M2 : Nat → Option Obj} {j j' : JS} {sf : Int} {pa pa2 : Option Addr} {pc pc2 : Nat} {ps : List QV} {da : Option Addr} {dc : Nat} {ds : List (Int × Int)} (h : RJOK M j sf pa pc ps da dc ds) (hl : leM M M2) {t : Int} (hj : j'.parts = delL j.parts t) (hd : j'.done = j.done)
    (hs : SlM M2 pa2 (ps.filter fun u => !decide (u.txn = t)).length 2 ((ps.filter fun u => !decide (u.txn = t)).flatMap QV.cells)) : RJOK M2 j' sf pa2 pc2 (ps.filter fun u => !decide (u.txn = t)) da dc ds := by
  refine ⟨h.s1, h.s2, ?_, fun u hu => (h.po u (List.mem_filter.1 hu).1).mono hl, hs, hd ▸ h.dp, h.sd, h.dS.mono hl, h.dc, hj ▸ delL_ok h.kp _, hd ▸ h.kd⟩
  rw [hj]
  have := h.pp.filter (fun u : Int × List Int => !decide (u.1 = t))
  rw [List.filter_map] at this
  exact this
theorem RJOK.putD {M M2 : Nat → Option Obj} {j j' : JS} {sf : Int} {pa : Option Addr} {pc : Nat} {ps : List QV} {da da2 : Option Addr} {dc dc2 : Nat} {ds : List (Int × Int)} (h : RJOK M j sf pa pc ps da dc ds) (hl : leM M M2) {d : Int × Int} (hj : j'.parts = j.parts) (hd : j'.done = putL j.done d.1 d.2)
    (hs : SlM M2 da2 (insD ds d).length 2 ((insD ds d).flatMap dC)) (hc : (insD ds d).length ≤ dc2) : RJOK M2 j' sf pa pc ps da2 dc2 (insD ds d) :=
  ⟨h.s1, h.s2, hj ▸ h.pp, fun u hu => (h.po u hu).mono hl, h.pS.mono hl, hd ▸ insD_perm h.dp h.kd d, insD_sorted h.sd d, hs, hc, hj ▸ h.kp, hd ▸ putL_ok h.kd _ _⟩
theorem RJOK.same {M : Nat → Option Obj} {j j' : JS} {sf : Int} {pa : Option Addr} {pc : Nat} {ps : List QV} {da : Option Addr} {dc : Nat} {ds : List (Int × Int)} (h : RJOK M j sf pa pc ps da dc ds) (hj : j'.parts = j.parts) (hd : j'.done = j.done) : RJOK M j' sf pa pc ps da dc ds :=
  ⟨h.s1, h.s2, hj ▸ h.pp, h.po, h.pS, hd ▸ h.dp, h.sd, h.dS, h.dc, hj ▸ h.kp, hd ▸ h.kd⟩
theorem rjclose2 {p v l : Nat} {sf : Int} {M : Nat → Option Obj} {j : JS} {pa : Option Addr} {pc : Nat} {ps : List QV} {da : Option Addr} {dc : Nat} {ds : List (Int × Int)} {L L0 L1 L2 : List HP} [h1 : Pick (pt p (cl [.int .i64 sf, ptrV v, .slice pa l pc, .slice da ds.length dc] 92)) L L0] [h2 : PickR v L0 j.v L1] [h3 : Pick (roM M) L1 L2] (hl : ps.length = l) (hq : RJOK M j sf pa pc ps da dc ds) : Ent L (rjH p j :: L2) := by
  subst hl
  exact Ent.trans h1.ent (Ent.trans (Ent.cons (Ent.trans h2.ent (Ent.cons h3.ent))) (rj_shut hq))
set_option maxHeartbeats 8000000 in
theorem RApp_spec (n : NV) (p : Nat) (j : JS) (k : Nat) (M0 : Nat → Option Obj) (L : List HP) (hj : JOW j k) (hk : k ≤ 10000) (hn : okN M0 n) (hN : OkN n) (hoc : n.ops.length ≤ n.oc) (hov : ∀ o ∈ n.ops, o.vec.length ≤ o.c) (u : NumA n.abs) :
    CallsS Tryz.prog 32 [.pointer (some ⟨p, 0, none⟩), n.val] (rjH p j :: roM M0 :: L) (fun r L' => r = .int .i64 (appE j n.abs) ∧ L' = rjH p (appS j n.abs) :: roM M0 :: L) := by
  have hdl : j.done.length ≤ 10000 := Nat.le_trans hj.dl hk
  have hpl : j.parts.length ≤ 10000 := Nat.le_trans hj.pl hk
  have hil : j.v.its.length ≤ 10000 := Nat.le_trans hj.w.wf.il hk
  have hno1 := hN.o
  have hnp1 := hN.p
  refine CallsS.of_body Tryz.func32 rfl rfl rfl ?_
  refine Q.r ?_; (repeat (intro b1; refine Q.r ?_))
  refine S.cr rfl (Right12_spec n _ hn.rd hN u) ?_
  rintro _ _ ⟨rfl, rfl⟩
  cases hr : rightN n.abs with
  | false =>
    have hE : appE j n.abs = 4 := by unfold appE; rw [hr, if_pos rfl]
    have hS : appS j n.abs = j := by unfold appS; rw [hE]; rfl
    rw [hE, hS]
    refine Q.r ?_; (repeat (intro b1; refine Q.r ?_))
    exact N.r1 (RV.tmp rfl RV.nil) (by repeat (first | exact Ent.refl _ | exact Ent.nil | refine Ent.pick ?_ | refine Ent.nilS ?_ | refine Ent.nilM ?_ | refine Ent.drop ?_)) ⟨rfl, rfl⟩
  | true =>
  by_cases h12 : n.kind = 12
  · have hE : appE j n.abs = lockE j.v n.txn n.after (n.ops.map OV.abs) := by
      unfold appE; rw [hr, if_neg (by decide), if_pos (show n.abs.kind = 12 from h12)]
    refine Q.r ?_; (repeat (intro b1; refine Q.r ?_))
    refine swp_rj p (fun v sf M pa pc ps da dc ds hq => ?_)
    have hpl2 : ps.length ≤ 10000 := by have := hq.pp.length_eq; rw [List.length_map] at this; omega
    have hfl : (ps.filter fun u : QV => !decide (u.txn = n.txn)).length ≤ ps.length := List.length_filter_le _ _
    refine Q.dgo [true, false, false, true] [11] [] [0, 1, 2, 3, 4, 5, 6, 7, 8, 9, 10, 11, 12] ?_
    refine Q.rd ?_; (repeat (intro b1; refine Q.rd ?_))
    refine D.e rfl rfl rfl ?_
    refine S.cf v rfl (RLock_spec v j.v k ⟨n.txn, n.after, n.oa, n.oc, n.ops⟩ _ hj.w.wf hk hn.rd.o hoc hov hN.o hN.ov) ?_
    rintro _ _ ⟨rfl, rfl⟩
    dsimp only
    rw [hE]
    by_cases hz : lockE j.v n.txn n.after (n.ops.map OV.abs) = 0
    · have hS : appS j n.abs = ⟨lockS j.v n.txn n.after (n.ops.map OV.abs), putL j.parts n.txn n.parts, j.done⟩ := by
        unfold appS; rw [hE, hz, if_neg (by decide), if_pos (show n.abs.kind = 12 from h12)]
      rw [hS, hz]
      refine Q.r ?_; (repeat (intro b1; refine Q.r ?_))
      refine Q.rd ?_; (repeat (intro b1; refine Q.rd ?_))
      refine Q.r ?_; (repeat (intro b1; refine Q.r ?_))
      refine Q.dgo [true, true] [7, 10, 13, 15, 16, 19] [19] [0, 1, 2, 3, 4, 5, 6, 8, 9, 11, 12, 99999, 0, 0, 0, 0, 0, 0, 0, 0] ?_
      repeat (first | refine D.endA ?_ | refine Q.dp rfl rfl rfl ?_ | refine Q.dy rfl rfl rfl ?_ | refine D.end_ ?_ | refine Q.endH ?_ | (refine D.e rfl rfl rfl ?_; (first | refine S.gskip1 rfl ?_ | refine S.gskip rfl ?_ | refine S.y (Y.gskipU rfl) ?_); refine opsS_nil ?_; refine N.tn ?_))
      refine D.two 7 10 [10, 13, 14, 15, 16, 17, 18, 19] [7, 13, 14, 15, 16, 17, 18, 19] (by kernel_rfl) rfl rfl rfl rfl (by kernel_rfl) (by kernel_rfl) ?_ ?_
      · refine S.cr rfl (without_spec pa pc ps n.txn _ hq.pS.rd (by omega)) ?_
        rintro _ _ ⟨a5, c5, rfl, rfl⟩
        refine Q.r ?_; (repeat (intro b1; refine Q.r ?_))
        repeat (first | refine D.endA ?_ | refine Q.dp rfl rfl rfl ?_ | refine Q.dy rfl rfl rfl ?_ | refine D.end_ ?_ | refine Q.endH ?_ | (refine D.e rfl rfl rfl ?_; (first | refine S.gskip1 rfl ?_ | refine S.gskip rfl ?_ | refine S.y (Y.gskipU rfl) ?_); refine opsS_nil ?_; refine N.tn ?_))
        refine D.e rfl rfl rfl ?_
        refine GQ.a ?_
        refine Q.al (fun bz => ?_)
        refine Q.r ?_; (repeat (intro b1; refine Q.r ?_))
        repeat (first | refine D.endA ?_ | refine Q.dp rfl rfl rfl ?_ | refine Q.dy rfl rfl rfl ?_ | refine D.end_ ?_ | refine Q.endH ?_ | (refine D.e rfl rfl rfl ?_; (first | refine S.gskip1 rfl ?_ | refine S.gskip rfl ?_ | refine S.y (Y.gskipU rfl) ?_); refine opsS_nil ?_; refine N.tn ?_))
        refine D.e rfl rfl rfl ?_
        first | refine opsS_ent (slO_fold (sz := 1) (m := 0) rfl) ?_ | refine opsS_ent (Ent.trans (Ent.perm (.swap _ _ _)) (slO_fold (sz := 1) (m := 0) rfl)) ?_
        refine S.app0 rfl rfl rfl (SrcS.rd (RdN.p hn.rd) (P_one _)) (by rfl) (by omega) (by omega) (fun a6 c6 => ?_)
        refine Q.r ?_; (repeat (intro b1; refine Q.r ?_))
        repeat (first | refine D.endA ?_ | refine Q.dp rfl rfl rfl ?_ | refine Q.dy rfl rfl rfl ?_ | refine D.end_ ?_ | refine Q.endH ?_ | (refine D.e rfl rfl rfl ?_; (first | refine S.gskip1 rfl ?_ | refine S.gskip rfl ?_ | refine S.y (Y.gskipU rfl) ?_); refine opsS_nil ?_; refine N.tn ?_))
        refine D.e rfl rfl rfl ?_
        refine GQ.a ?_
        refine Q.al (fun b8 => ?_)
        refine Q.r ?_; (repeat (intro b1; refine Q.r ?_))
        repeat (first | refine D.endA ?_ | refine Q.dp rfl rfl rfl ?_ | refine Q.dy rfl rfl rfl ?_ | refine D.end_ ?_ | refine Q.endH ?_ | (refine D.e rfl rfl rfl ?_; (first | refine S.gskip1 rfl ?_ | refine S.gskip rfl ?_ | refine S.y (Y.gskipU rfl) ?_); refine opsS_nil ?_; refine N.tn ?_))
        refine D.e rfl rfl rfl ?_
        refine S.app rfl rfl (SrcS.sl RdC.row (by rfl) (by rfl)) (by rfl) (by omega) (by omega) (fun a7 c7 => ?_)
        refine Q.r ?_; (repeat (intro b1; refine Q.r ?_))
        repeat (first | refine D.endA ?_ | refine Q.dp rfl rfl rfl ?_ | refine Q.dy rfl rfl rfl ?_ | refine D.end_ ?_ | refine Q.endH ?_ | (refine D.e rfl rfl rfl ?_; (first | refine S.gskip1 rfl ?_ | refine S.gskip rfl ?_ | refine S.y (Y.gskipU rfl) ?_); refine opsS_nil ?_; refine N.tn ?_))
        refine Q.dc rfl rfl rfl rfl ?_
        refine Q.r ?_; (repeat (intro b1; refine Q.r ?_))
        repeat (first | refine D.endA ?_ | refine Q.dp rfl rfl rfl ?_ | refine Q.dy rfl rfl rfl ?_ | refine D.end_ ?_ | refine Q.endH ?_ | (refine D.e rfl rfl rfl ?_; (first | refine S.gskip1 rfl ?_ | refine S.gskip rfl ?_ | refine S.y (Y.gskipU rfl) ?_); refine opsS_nil ?_; refine N.tn ?_))
        repeat (first | refine D.endA ?_ | refine Q.dp rfl rfl rfl ?_ | refine Q.dy rfl rfl rfl ?_ | refine D.end_ ?_ | refine Q.endH ?_ | (refine D.e rfl rfl rfl ?_; (first | refine S.gskip1 rfl ?_ | refine S.gskip rfl ?_ | refine S.y (Y.gskipU rfl) ?_); refine opsS_nil ?_; refine N.tn ?_))
        repeat (first | refine N.tn ?_ | refine N.tr ?_ | refine N.te ?_ | refine N.bn ?_ | refine N.br ?_ | refine N.be ?_ | refine N.bx rfl ?_)
        refine swp_front (roM M) ?_
        refine swp_abs a6 (fun M2 hl2 hs2 => ?_)
        refine swp_abs a7 (fun M3 hl3 hs3 => ?_)
        refine Q.r ?_; (repeat (intro b1; refine Q.r ?_))
        refine N.r1 (RV.tmp rfl RV.nil) ?_ ⟨rfl, rfl⟩
        have hs4 : SlM M3 a7 ((ps.filter fun u : QV => !decide (u.txn = n.txn)) ++ [(⟨n.txn, a6, c6, n.parts⟩ : QV)]).length 2 (((ps.filter fun u => !decide (u.txn = n.txn)) ++ [(⟨n.txn, a6, c6, n.parts⟩ : QV)]).flatMap QV.cells) := by
          rw [List.length_append, flat_snoc]; exact hs3
        have hq2 := hq.setP (pc2 := c7) (j' := ⟨lockS j.v n.txn n.after (n.ops.map OV.abs), putL j.parts n.txn n.parts, j.done⟩) (hl2.trans hl3) (hs2.mono hl3) rfl rfl hs4
        refine Ent.trans (rjclose2 (p := p) (v := v) (by rw [List.length_append]) hq2) ?_
        repeat (first | exact Ent.refl _ | exact Ent.nil | refine Ent.pick ?_ | refine Ent.nilS ?_ | refine Ent.nilM ?_ | refine Ent.drop ?_)
      · refine GQ.a ?_
        refine Q.al (fun bz => ?_)
        refine Q.r ?_; (repeat (intro b1; refine Q.r ?_))
        repeat (first | refine D.endA ?_ | refine Q.dp rfl rfl rfl ?_ | refine Q.dy rfl rfl rfl ?_ | refine D.end_ ?_ | refine Q.endH ?_ | (refine D.e rfl rfl rfl ?_; (first | refine S.gskip1 rfl ?_ | refine S.gskip rfl ?_ | refine S.y (Y.gskipU rfl) ?_); refine opsS_nil ?_; refine N.tn ?_))
        refine D.e rfl rfl rfl ?_
        refine S.cr rfl (without_spec pa pc ps n.txn _ hq.pS.rd (by omega)) ?_
        rintro _ _ ⟨a5, c5, rfl, rfl⟩
        refine Q.r ?_; (repeat (intro b1; refine Q.r ?_))
        repeat (first | refine D.endA ?_ | refine Q.dp rfl rfl rfl ?_ | refine Q.dy rfl rfl rfl ?_ | refine D.end_ ?_ | refine Q.endH ?_ | (refine D.e rfl rfl rfl ?_; (first | refine S.gskip1 rfl ?_ | refine S.gskip rfl ?_ | refine S.y (Y.gskipU rfl) ?_); refine opsS_nil ?_; refine N.tn ?_))
        refine D.e rfl rfl rfl ?_
        first | refine opsS_ent (slO_fold (sz := 1) (m := 0) rfl) ?_ | refine opsS_ent (Ent.trans (Ent.perm (.swap _ _ _)) (slO_fold (sz := 1) (m := 0) rfl)) ?_
        refine S.app0 rfl rfl rfl (SrcS.rd (RdN.p hn.rd) (P_one _)) (by rfl) (by omega) (by omega) (fun a6 c6 => ?_)
        refine Q.r ?_; (repeat (intro b1; refine Q.r ?_))
        repeat (first | refine D.endA ?_ | refine Q.dp rfl rfl rfl ?_ | refine Q.dy rfl rfl rfl ?_ | refine D.end_ ?_ | refine Q.endH ?_ | (refine D.e rfl rfl rfl ?_; (first | refine S.gskip1 rfl ?_ | refine S.gskip rfl ?_ | refine S.y (Y.gskipU rfl) ?_); refine opsS_nil ?_; refine N.tn ?_))
        refine D.e rfl rfl rfl ?_
        refine GQ.a ?_
        refine Q.al (fun b8 => ?_)
        refine Q.r ?_; (repeat (intro b1; refine Q.r ?_))
        repeat (first | refine D.endA ?_ | refine Q.dp rfl rfl rfl ?_ | refine Q.dy rfl rfl rfl ?_ | refine D.end_ ?_ | refine Q.endH ?_ | (refine D.e rfl rfl rfl ?_; (first | refine S.gskip1 rfl ?_ | refine S.gskip rfl ?_ | refine S.y (Y.gskipU rfl) ?_); refine opsS_nil ?_; refine N.tn ?_))
        refine D.e rfl rfl rfl ?_
        refine S.app rfl rfl (SrcS.sl RdC.row (by rfl) (by rfl)) (by rfl) (by omega) (by omega) (fun a7 c7 => ?_)
        refine Q.r ?_; (repeat (intro b1; refine Q.r ?_))
        repeat (first | refine D.endA ?_ | refine Q.dp rfl rfl rfl ?_ | refine Q.dy rfl rfl rfl ?_ | refine D.end_ ?_ | refine Q.endH ?_ | (refine D.e rfl rfl rfl ?_; (first | refine S.gskip1 rfl ?_ | refine S.gskip rfl ?_ | refine S.y (Y.gskipU rfl) ?_); refine opsS_nil ?_; refine N.tn ?_))
        refine Q.dc rfl rfl rfl rfl ?_
        refine Q.r ?_; (repeat (intro b1; refine Q.r ?_))
        repeat (first | refine D.endA ?_ | refine Q.dp rfl rfl rfl ?_ | refine Q.dy rfl rfl rfl ?_ | refine D.end_ ?_ | refine Q.endH ?_ | (refine D.e rfl rfl rfl ?_; (first | refine S.gskip1 rfl ?_ | refine S.gskip rfl ?_ | refine S.y (Y.gskipU rfl) ?_); refine opsS_nil ?_; refine N.tn ?_))
        repeat (first | refine D.endA ?_ | refine Q.dp rfl rfl rfl ?_ | refine Q.dy rfl rfl rfl ?_ | refine D.end_ ?_ | refine Q.endH ?_ | (refine D.e rfl rfl rfl ?_; (first | refine S.gskip1 rfl ?_ | refine S.gskip rfl ?_ | refine S.y (Y.gskipU rfl) ?_); refine opsS_nil ?_; refine N.tn ?_))
        repeat (first | refine N.tn ?_ | refine N.tr ?_ | refine N.te ?_ | refine N.bn ?_ | refine N.br ?_ | refine N.be ?_ | refine N.bx rfl ?_)
        refine swp_front (roM M) ?_
        refine swp_abs a6 (fun M2 hl2 hs2 => ?_)
        refine swp_abs a7 (fun M3 hl3 hs3 => ?_)
        refine Q.r ?_; (repeat (intro b1; refine Q.r ?_))
        refine N.r1 (RV.tmp rfl RV.nil) ?_ ⟨rfl, rfl⟩
        have hs4 : SlM M3 a7 ((ps.filter fun u : QV => !decide (u.txn = n.txn)) ++ [(⟨n.txn, a6, c6, n.parts⟩ : QV)]).length 2 (((ps.filter fun u => !decide (u.txn = n.txn)) ++ [(⟨n.txn, a6, c6, n.parts⟩ : QV)]).flatMap QV.cells) := by
          rw [List.length_append, flat_snoc]; exact hs3
        have hq2 := hq.setP (pc2 := c7) (j' := ⟨lockS j.v n.txn n.after (n.ops.map OV.abs), putL j.parts n.txn n.parts, j.done⟩) (hl2.trans hl3) (hs2.mono hl3) rfl rfl hs4
        refine Ent.trans (rjclose2 (p := p) (v := v) (by rw [List.length_append]) hq2) ?_
        repeat (first | exact Ent.refl _ | exact Ent.nil | refine Ent.pick ?_ | refine Ent.nilS ?_ | refine Ent.nilM ?_ | refine Ent.drop ?_)
    · have hS : appS j n.abs = j := by unfold appS; rw [hE, if_pos hz]
      have hS2 : lockS j.v n.txn n.after (n.ops.map OV.abs) = j.v := by unfold lockS; rw [if_neg hz]
      rw [hS, hS2]
      refine Q.r ?_; (repeat (intro b1; refine Q.r ?_))
      refine Q.rd ?_; (repeat (intro b1; refine Q.rd ?_))
      refine Q.r ?_; (repeat (intro b1; refine Q.r ?_))
      refine N.r1 (RV.tmp rfl RV.nil) ?_ ⟨rfl, rfl⟩
      refine Ent.trans (rjclose (p := p) (v := v) (j := j) hq) ?_
      repeat (first | exact Ent.refl _ | exact Ent.nil | refine Ent.pick ?_ | refine Ent.nilS ?_ | refine Ent.nilM ?_ | refine Ent.drop ?_)
  by_cases h13 : n.kind = 13
  · have hE : appE j n.abs = applyE j.v n.txn n.stamp := by
      unfold appE; rw [hr, if_neg (by decide), if_neg (show ¬ n.abs.kind = 12 from h12), if_pos (show n.abs.kind = 13 from h13)]
    refine Q.r ?_; (repeat (intro b1; refine Q.r ?_))
    refine swp_rj p (fun v sf M pa pc ps da dc ds hq => ?_)
    have hpl2 : ps.length ≤ 10000 := by have := hq.pp.length_eq; rw [List.length_map] at this; omega
    have hfl : (ps.filter fun u : QV => !decide (u.txn = n.txn)).length ≤ ps.length := List.length_filter_le _ _
    have hdl2 : ds.length ≤ 10000 := by rw [hq.dp.length_eq]; exact hdl
    refine Q.dgo [true, false, false, true] [8] [] [0, 1, 2, 3, 4, 5, 6, 7, 8, 9] ?_
    refine Q.rd ?_; (repeat (intro b1; refine Q.rd ?_))
    refine D.e rfl rfl rfl ?_
    refine S.cf v rfl (RApply_spec v j.v k n.txn n.stamp _ hj.w.wf hk u.stamp.1) ?_
    rintro _ _ ⟨rfl, rfl⟩
    rw [hE]
    by_cases hz : applyE j.v n.txn n.stamp = 0
    · have hS : appS j n.abs = ⟨applyS j.v n.txn n.stamp, delL j.parts n.txn, putL j.done n.txn n.stamp⟩ := by
        unfold appS; rw [hE, hz, if_neg (by decide), if_neg (show ¬ n.abs.kind = 12 from h12), if_pos (show n.abs.kind = 13 from h13)]
      rw [hS, hz]
      refine Q.r ?_; (repeat (intro b1; refine Q.r ?_))
      refine Q.rd ?_; (repeat (intro b1; refine Q.rd ?_))
      refine Q.r ?_; (repeat (intro b1; refine Q.r ?_))
      refine Q.dgo [true, true] [11, 18, 21, 24] [21] [0, 1, 2, 3, 4, 5, 6, 7, 8, 9, 10, 12, 13, 14, 15, 16, 17, 11, 18, 19, 20, 21, 22, 23, 24] ?_
      repeat (first | refine D.endA ?_ | refine Q.dp rfl rfl rfl ?_ | refine Q.dy rfl rfl rfl ?_ | refine D.end_ ?_ | refine Q.endH ?_ | (refine D.e rfl rfl rfl ?_; (first | refine S.gskip1 rfl ?_ | refine S.gskip rfl ?_ | refine S.y (Y.gskipU rfl) ?_); refine opsS_nil ?_; refine N.tn ?_))
      refine D.e rfl rfl rfl ?_
      refine S.cr rfl (put_spec da dc ds (n.txn, n.stamp) _ hq.dS.rd hq.dc (by omega) hq.sd) ?_
      rintro _ _ ⟨a6, c6, rfl, rfl⟩
      refine Q.r ?_; (repeat (intro b1; refine Q.r ?_))
      repeat (first | refine D.endA ?_ | refine Q.dp rfl rfl rfl ?_ | refine Q.dy rfl rfl rfl ?_ | refine D.end_ ?_ | refine Q.endH ?_ | (refine D.e rfl rfl rfl ?_; (first | refine S.gskip1 rfl ?_ | refine S.gskip rfl ?_ | refine S.y (Y.gskipU rfl) ?_); refine opsS_nil ?_; refine N.tn ?_))
      refine D.e rfl rfl rfl ?_
      refine S.cr rfl (without_spec pa pc ps n.txn _ hq.pS.rd (by omega)) ?_
      rintro _ _ ⟨a5, c5, rfl, rfl⟩
      refine Q.r ?_; (repeat (intro b1; refine Q.r ?_))
      repeat (first | refine D.endA ?_ | refine Q.dp rfl rfl rfl ?_ | refine Q.dy rfl rfl rfl ?_ | refine D.end_ ?_ | refine Q.endH ?_ | (refine D.e rfl rfl rfl ?_; (first | refine S.gskip1 rfl ?_ | refine S.gskip rfl ?_ | refine S.y (Y.gskipU rfl) ?_); refine opsS_nil ?_; refine N.tn ?_))
      refine Q.dc rfl rfl rfl rfl ?_
      refine Q.r ?_; (repeat (intro b1; refine Q.r ?_))
      repeat (first | refine D.endA ?_ | refine Q.dp rfl rfl rfl ?_ | refine Q.dy rfl rfl rfl ?_ | refine D.end_ ?_ | refine Q.endH ?_ | (refine D.e rfl rfl rfl ?_; (first | refine S.gskip1 rfl ?_ | refine S.gskip rfl ?_ | refine S.y (Y.gskipU rfl) ?_); refine opsS_nil ?_; refine N.tn ?_))
      refine D.e rfl rfl rfl ?_
      refine Q.r ?_; (repeat (intro b1; refine Q.r ?_))
      repeat (first | refine D.endA ?_ | refine Q.dp rfl rfl rfl ?_ | refine Q.dy rfl rfl rfl ?_ | refine D.end_ ?_ | refine Q.endH ?_ | (refine D.e rfl rfl rfl ?_; (first | refine S.gskip1 rfl ?_ | refine S.gskip rfl ?_ | refine S.y (Y.gskipU rfl) ?_); refine opsS_nil ?_; refine N.tn ?_))
      repeat (first | refine D.endA ?_ | refine Q.dp rfl rfl rfl ?_ | refine Q.dy rfl rfl rfl ?_ | refine D.end_ ?_ | refine Q.endH ?_ | (refine D.e rfl rfl rfl ?_; (first | refine S.gskip1 rfl ?_ | refine S.gskip rfl ?_ | refine S.y (Y.gskipU rfl) ?_); refine opsS_nil ?_; refine N.tn ?_))
      repeat (first | refine N.tn ?_ | refine N.tr ?_ | refine N.te ?_ | refine N.bn ?_ | refine N.br ?_ | refine N.be ?_ | refine N.bx rfl ?_)
      refine swp_front (roM M) ?_
      refine swp_cap a6 (fun hc6 => ?_)
      refine swp_abs a6 (fun M2 hl2 hs2 => ?_)
      refine swp_abs a5 (fun M3 hl3 hs3 => ?_)
      refine Q.r ?_; (repeat (intro b1; refine Q.r ?_))
      refine N.r1 (RV.tmp rfl RV.nil) ?_ ⟨rfl, rfl⟩
      have hq1 := hq.putD (j' := ⟨j.v, j.parts, putL j.done n.txn n.stamp⟩) (d := (n.txn, n.stamp)) hl2 rfl rfl hs2 hc6
      have hq2 := hq1.delP (pc2 := c5) (j' := ⟨applyS j.v n.txn n.stamp, delL j.parts n.txn, putL j.done n.txn n.stamp⟩) hl3 rfl rfl hs3
      refine Ent.trans (rjclose (p := p) (v := v) hq2) ?_
      repeat (first | exact Ent.refl _ | exact Ent.nil | refine Ent.pick ?_ | refine Ent.nilS ?_ | refine Ent.nilM ?_ | refine Ent.drop ?_)
    · have hS : appS j n.abs = j := by unfold appS; rw [hE, if_pos hz]
      rw [hS, applyS_ne hz]
      refine Q.r ?_; (repeat (intro b1; refine Q.r ?_))
      refine Q.rd ?_; (repeat (intro b1; refine Q.rd ?_))
      refine Q.r ?_; (repeat (intro b1; refine Q.r ?_))
      refine N.r1 (RV.tmp rfl RV.nil) ?_ ⟨rfl, rfl⟩
      refine Ent.trans (rjclose (p := p) (v := v) (j := j) hq) ?_
      repeat (first | exact Ent.refl _ | exact Ent.nil | refine Ent.pick ?_ | refine Ent.nilS ?_ | refine Ent.nilM ?_ | refine Ent.drop ?_)
  by_cases h14 : n.kind = 14
  · have hE : appE j n.abs = if (lkL j.v.its n.txn).isSome then 0 else 6 := by
      unfold appE; rw [hr, if_neg (by decide), if_neg (show ¬ n.abs.kind = 12 from h12), if_neg (show ¬ n.abs.kind = 13 from h13), if_pos (show n.abs.kind = 14 from h14)]
    refine Q.r ?_; (repeat (intro b1; refine Q.r ?_))
    refine swp_rj p (fun v sf M pa pc ps da dc ds hq => ?_)
    have hpl2 : ps.length ≤ 10000 := by have := hq.pp.length_eq; rw [List.length_map] at this; omega
    have hfl : (ps.filter fun u : QV => !decide (u.txn = n.txn)).length ≤ ps.length := List.length_filter_le _ _
    refine Q.dgo [true, false, false, true] [6] [] [0, 1, 2, 3, 4, 5, 6, 7] ?_
    refine Q.rd ?_; (repeat (intro b1; refine Q.rd ?_))
    refine D.e rfl rfl rfl ?_
    refine S.cf v rfl (RFree_spec v j.v n.txn _ (by omega)) ?_
    rintro _ _ ⟨rfl, rfl⟩
    rw [hE]
    cases hz : (lkL j.v.its n.txn).isSome with
    | true =>
      rw [hz] at hE
      have hS : appS j n.abs = ⟨{ j.v with its := delL j.v.its n.txn }, delL j.parts n.txn, j.done⟩ := by
        unfold appS; rw [hE, if_pos rfl, if_neg (by decide), if_neg (show ¬ n.abs.kind = 12 from h12), if_neg (show ¬ n.abs.kind = 13 from h13), if_pos (show n.abs.kind = 14 from h14)]
      rw [hS, if_pos rfl]
      refine Q.r ?_; (repeat (intro b1; refine Q.r ?_))
      refine Q.rd ?_; (repeat (intro b1; refine Q.rd ?_))
      refine Q.r ?_; (repeat (intro b1; refine Q.r ?_))
      refine Q.dgo [true, true] [7, 10] [10] [0, 1, 2, 3, 4, 5, 6, 7, 8, 9, 10] ?_
      repeat (first | refine D.endA ?_ | refine Q.dp rfl rfl rfl ?_ | refine Q.dy rfl rfl rfl ?_ | refine D.end_ ?_ | refine Q.endH ?_ | (refine D.e rfl rfl rfl ?_; (first | refine S.gskip1 rfl ?_ | refine S.gskip rfl ?_ | refine S.y (Y.gskipU rfl) ?_); refine opsS_nil ?_; refine N.tn ?_))
      refine D.e rfl rfl rfl ?_
      refine S.cr rfl (without_spec pa pc ps n.txn _ hq.pS.rd (by omega)) ?_
      rintro _ _ ⟨a5, c5, rfl, rfl⟩
      refine Q.r ?_; (repeat (intro b1; refine Q.r ?_))
      repeat (first | refine D.endA ?_ | refine Q.dp rfl rfl rfl ?_ | refine Q.dy rfl rfl rfl ?_ | refine D.end_ ?_ | refine Q.endH ?_ | (refine D.e rfl rfl rfl ?_; (first | refine S.gskip1 rfl ?_ | refine S.gskip rfl ?_ | refine S.y (Y.gskipU rfl) ?_); refine opsS_nil ?_; refine N.tn ?_))
      refine Q.dc rfl rfl rfl rfl ?_
      refine Q.r ?_; (repeat (intro b1; refine Q.r ?_))
      repeat (first | refine D.endA ?_ | refine Q.dp rfl rfl rfl ?_ | refine Q.dy rfl rfl rfl ?_ | refine D.end_ ?_ | refine Q.endH ?_ | (refine D.e rfl rfl rfl ?_; (first | refine S.gskip1 rfl ?_ | refine S.gskip rfl ?_ | refine S.y (Y.gskipU rfl) ?_); refine opsS_nil ?_; refine N.tn ?_))
      repeat (first | refine D.endA ?_ | refine Q.dp rfl rfl rfl ?_ | refine Q.dy rfl rfl rfl ?_ | refine D.end_ ?_ | refine Q.endH ?_ | (refine D.e rfl rfl rfl ?_; (first | refine S.gskip1 rfl ?_ | refine S.gskip rfl ?_ | refine S.y (Y.gskipU rfl) ?_); refine opsS_nil ?_; refine N.tn ?_))
      repeat (first | refine N.tn ?_ | refine N.tr ?_ | refine N.te ?_ | refine N.bn ?_ | refine N.br ?_ | refine N.be ?_ | refine N.bx rfl ?_)
      refine swp_front (roM M) ?_
      refine swp_abs a5 (fun M3 hl3 hs3 => ?_)
      refine Q.r ?_; (repeat (intro b1; refine Q.r ?_))
      refine N.r1 (RV.tmp rfl RV.nil) ?_ ⟨rfl, rfl⟩
      have hq2 := hq.delP (pc2 := c5) (j' := ⟨{ j.v with its := delL j.v.its n.txn }, delL j.parts n.txn, j.done⟩) hl3 rfl rfl hs3
      refine Ent.trans (rjclose (p := p) (v := v) hq2) ?_
      repeat (first | exact Ent.refl _ | exact Ent.nil | refine Ent.pick ?_ | refine Ent.nilS ?_ | refine Ent.nilM ?_ | refine Ent.drop ?_)
    | false =>
      rw [hz] at hE
      have hS : appS j n.abs = j := by unfold appS; rw [hE, if_pos (by decide)]
      have hz2 : lkL j.v.its n.txn = none := isSome_ne (by rw [hz]; decide)
      have hS2 : ({ j.v with its := delL j.v.its n.txn } : VS) = j.v := by rw [delL_none (lk_none' hz2)]
      rw [hS, hS2, if_neg (by decide)]
      refine Q.r ?_; (repeat (intro b1; refine Q.r ?_))
      refine Q.rd ?_; (repeat (intro b1; refine Q.rd ?_))
      refine Q.r ?_; (repeat (intro b1; refine Q.r ?_))
      refine N.r1 (RV.tmp rfl RV.nil) ?_ ⟨rfl, rfl⟩
      refine Ent.trans (rjclose (p := p) (v := v) (j := j) hq) ?_
      repeat (first | exact Ent.refl _ | exact Ent.nil | refine Ent.pick ?_ | refine Ent.nilS ?_ | refine Ent.nilM ?_ | refine Ent.drop ?_)
  by_cases h15 : n.kind = 15
  · have hE : appE j n.abs = 0 := by
      unfold appE; rw [hr, if_neg (by decide), if_neg (show ¬ n.abs.kind = 12 from h12), if_neg (show ¬ n.abs.kind = 13 from h13), if_neg (show ¬ n.abs.kind = 14 from h14), if_pos (show n.abs.kind = 15 from h15)]
    have hS : appS j n.abs = ⟨sweepS j.v n.mark, j.parts, j.done⟩ := by
      unfold appS; rw [hE, if_neg (by decide), if_neg (show ¬ n.abs.kind = 12 from h12), if_neg (show ¬ n.abs.kind = 13 from h13), if_neg (show ¬ n.abs.kind = 14 from h14), if_pos (show n.abs.kind = 15 from h15)]
    rw [hE, hS]
    refine Q.r ?_; (repeat (intro b1; refine Q.r ?_))
    refine swp_rj p (fun v sf M pa pc ps da dc ds hq => ?_)
    refine Q.dgo [true, false, false, true] [6] [] [0, 1, 2, 3, 4, 5, 6] ?_
    refine Q.rd ?_; (repeat (intro b1; refine Q.rd ?_))
    refine D.e rfl rfl rfl ?_
    refine S.cf v rfl (RSweep_spec v j.v k n.mark _ hj.w.wf hk) ?_
    rintro _ _ ⟨a5, c5, rfl, rfl⟩
    refine Q.r ?_; (repeat (intro b1; refine Q.r ?_))
    refine Q.rd ?_; (repeat (intro b1; refine Q.rd ?_))
    refine Q.r ?_; (repeat (intro b1; refine Q.r ?_))
    refine N.r1 (RV.tmp rfl RV.nil) ?_ ⟨rfl, rfl⟩
    refine Ent.trans (rjclose (p := p) (v := v) (j := ⟨sweepS j.v n.mark, j.parts, j.done⟩) (hq.same rfl rfl)) ?_
    repeat (first | exact Ent.refl _ | exact Ent.nil | refine Ent.pick ?_ | refine Ent.nilS ?_ | refine Ent.nilM ?_ | refine Ent.drop ?_)
  · have hE : appE j n.abs = 4 := by
      unfold appE; rw [hr, if_neg (by decide), if_neg (show ¬ n.abs.kind = 12 from h12), if_neg (show ¬ n.abs.kind = 13 from h13), if_neg (show ¬ n.abs.kind = 14 from h14), if_neg (show ¬ n.abs.kind = 15 from h15)]
    have hS : appS j n.abs = j := by unfold appS; rw [hE]; rfl
    rw [hE, hS]
    refine Q.r ?_; (repeat (intro b1; refine Q.r ?_))
    exact N.r1 (RV.tmp rfl RV.nil) (by repeat (first | exact Ent.refl _ | exact Ent.nil | refine Ent.pick ?_ | refine Ent.nilS ?_ | refine Ent.nilM ?_ | refine Ent.drop ?_)) ⟨rfl, rfl⟩
end Go.Proofs.YtjidejcehmamkaaGreatDoor
namespace Go.Proofs.YtjidejcehmamkaaGreatDoor
open Go Go.SX
attribute [local irreducible] swp opsS thenS blockS retS CallsS St Ent YieldS anyS drawS
def RdNs (A : List HP) (a : Option Addr) (xs : List NV) : Prop := RdS A a xs.length 16 (xs.flatMap NV.cells) ∧ ∀ n ∈ xs, RdN A n ∧ OkN n
def RdMs (A : List HP) (a : Option Addr) (xs : List (Int × NV)) : Prop := RdS A a xs.length 17 (xs.flatMap mcells) ∧ ∀ n ∈ xs, RdN A n.2 ∧ OkN n.2
theorem RdNs.sub {A L : List HP} {a : Option Addr} {xs : List NV} (h : RdNs A a xs) [s : Sub A L] : RdNs L a xs := ⟨h.1.sub, fun n hn => ⟨(h.2 n hn).1.sub, (h.2 n hn).2⟩⟩
theorem RdMs.sub {A L : List HP} {a : Option Addr} {xs : List (Int × NV)} (h : RdMs A a xs) [s : Sub A L] : RdMs L a xs := ⟨h.1.sub, fun n hn => ⟨(h.2 n hn).1.sub, (h.2 n hn).2⟩⟩
set_option maxHeartbeats 1000000 in
theorem SameAll_spec (a : Option Addr) (c : Nat) (xs : List NV) (a' : Option Addr) (c' : Nat) (ys : List NV) (A : List HP) (h : RdNs A a xs) (h' : RdNs A a' ys) (hn : xs.length ≤ 1000000) (he : xs.map NV.abs = ys.map NV.abs) :
    CallsS Tryz.prog 103 [.slice a xs.length c, .slice a' ys.length c'] A (fun v L' => v = .bool true ∧ L' = A) := by
  have hl : ys.length = xs.length := by
    have := congrArg List.length he
    simp at this; omega
  refine CallsS.of_body Tryz.func103 rfl rfl rfl ?_
  refine Q.r ?_; (repeat (intro b1; refine Q.r ?_))
  refine swp_loop (σ := Nat) (fun k => [(0, .slice a xs.length c), (1, .slice a' ys.length c'), (12, .int .i64 xs.length), (13, .int .i64 k)]) (fun _ => A)
    (fun k => k ≤ xs.length) (fun k => xs.length - k) 0 ⟨rfl, rfl, rfl, rfl, trivial⟩ (Ent.refl _) (by omega) ?_
  intro k hk
  by_cases hlt : k < xs.length
  · obtain ⟨x, hx⟩ := mem_get hlt
    obtain ⟨y, hy⟩ := mem_get (l := ys) (k := k) (by omega)
    have hxy := okmap he hx hy
    have hrx := h.2 x (List.mem_of_getElem? hx)
    have hry := h'.2 y (List.mem_of_getElem? hy)
    obtain ⟨b, o, rfl, hr⟩ := RdS.elem (g := NV.cells) (l := xs) (fun _ => rfl) h.1 hx rfl
    obtain ⟨b', o', rfl, hr'⟩ := RdS.elem (g := NV.cells) (l := ys) (fun _ => rfl) h'.1 hy rfl
    clear hx hy he
    refine Q.r ?_; (repeat (intro b1; refine Q.r ?_))
    refine D.start [8] [8] [0, 1, 2, 3, 4, 5, 6, 7, 8, 9] _ [] rfl (by kernel_rfl) rfl (by kernel_rfl) NoPanic.no (Ent.refl _) ?_
    repeat (first | refine Q.dyn rfl rfl rfl ?_ | refine Q.dyl rfl rfl rfl ?_ | refine D.y rfl rfl rfl (by kernel_rfl) (by first | exact (Y.ldRj rfl (by first | assumption | exact RdC.sub (by assumption)) rfl) | exact Y.guard rfl (Y.ldRj rfl (by first | assumption | exact RdC.sub (by assumption)) rfl)) ?_ | refine D.endA ?_ | refine Q.dp rfl rfl rfl ?_ | refine Q.dy rfl rfl rfl ?_ | refine D.end_ ?_ | refine Q.endH ?_ | (refine D.e rfl rfl rfl ?_; (first | refine S.gskip1 rfl ?_ | refine S.gskip rfl ?_ | refine S.y (Y.gskipU rfl) ?_); refine opsS_nil ?_; refine N.tn ?_) | refine Q.dT rfl rfl rfl ?_ | refine Q.dF rfl rfl rfl ?_ | (refine D.e rfl rfl rfl ?_; (first | (refine GQ.a ?_; refine Q.al (fun b1 => ?_)) | (refine GQ.s ?_; refine Q.st ?_)); refine opsS_nil ?_; refine N.tn ?_))
    refine Q.dc rfl rfl rfl rfl ?_
    rw [List.append_nil]
    refine S.cr (args := [x.val, y.val]) rfl (Same12_spec x y _ hrx.1 hry.1 hrx.2 hry.2 hxy) ?_
    rintro _ _ ⟨rfl, he⟩
    rw [he]
    clear he
    refine Q.r ?_; (repeat (intro b1; refine Q.r ?_))
    repeat (first | refine Q.dyn rfl rfl rfl ?_ | refine Q.dyl rfl rfl rfl ?_ | refine D.y rfl rfl rfl (by kernel_rfl) (by first | exact (Y.ldRj rfl (by first | assumption | exact RdC.sub (by assumption)) rfl) | exact Y.guard rfl (Y.ldRj rfl (by first | assumption | exact RdC.sub (by assumption)) rfl)) ?_ | refine D.endA ?_ | refine Q.dp rfl rfl rfl ?_ | refine Q.dy rfl rfl rfl ?_ | refine D.end_ ?_ | refine Q.endH ?_ | (refine D.e rfl rfl rfl ?_; (first | refine S.gskip1 rfl ?_ | refine S.gskip rfl ?_ | refine S.y (Y.gskipU rfl) ?_); refine opsS_nil ?_; refine N.tn ?_) | refine Q.dT rfl rfl rfl ?_ | refine Q.dF rfl rfl rfl ?_ | (refine D.e rfl rfl rfl ?_; (first | (refine GQ.a ?_; refine Q.al (fun b1 => ?_)) | (refine GQ.s ?_; refine Q.st ?_)); refine opsS_nil ?_; refine N.tn ?_))
    refine Q.r ?_; (repeat (intro b1; refine Q.r ?_))
    exact ⟨k + 1, ⟨rfl, rfl, rfl, rfl, trivial⟩, Ent.refl _, by omega, by omega⟩
  · have hke : k = xs.length := by omega
    subst hke
    refine Q.r ?_; (repeat (intro b1; refine Q.r ?_))
    exact N.r1 (RV.tmp rfl RV.nil) (Ent.refl _) ⟨rfl, rfl⟩
set_option maxHeartbeats 1000000 in
theorem SameMail_spec (a : Option Addr) (c : Nat) (xs : List (Int × NV)) (a' : Option Addr) (c' : Nat) (ys : List (Int × NV)) (A : List HP) (h : RdMs A a xs) (h' : RdMs A a' ys) (hn : xs.length ≤ 1000000) (he : xs.map (fun m => (m.1, m.2.abs)) = ys.map (fun m => (m.1, m.2.abs))) :
    CallsS Tryz.prog 20 [.slice a xs.length c, .slice a' ys.length c'] A (fun v L' => v = .bool true ∧ L' = A) := by
  have hl : ys.length = xs.length := by
    have := congrArg List.length he
    simp at this; omega
  refine CallsS.of_body Tryz.func20 rfl rfl rfl ?_
  refine Q.r ?_; (repeat (intro b1; refine Q.r ?_))
  refine swp_loop (σ := Nat) (fun k => [(0, .slice a xs.length c), (1, .slice a' ys.length c'), (12, .int .i64 xs.length), (13, .int .i64 k)]) (fun _ => A)
    (fun k => k ≤ xs.length) (fun k => xs.length - k) 0 ⟨rfl, rfl, rfl, rfl, trivial⟩ (Ent.refl _) (by omega) ?_
  intro k hk
  by_cases hlt : k < xs.length
  · obtain ⟨x, hx⟩ := mem_get hlt
    obtain ⟨y, hy⟩ := mem_get (l := ys) (k := k) (by omega)
    have hxy := okmap he hx hy
    have hrx := h.2 x (List.mem_of_getElem? hx)
    have hry := h'.2 y (List.mem_of_getElem? hy)
    obtain ⟨b, o, rfl, hr⟩ := RdS.elem (g := mcells) (l := xs) (fun _ => rfl) h.1 hx rfl
    obtain ⟨b', o', rfl, hr'⟩ := RdS.elem (g := mcells) (l := ys) (fun _ => rfl) h'.1 hy rfl
    clear hx hy he
    obtain ⟨x1, x2⟩ := x
    obtain ⟨y1, y2⟩ := y
    dsimp only at hrx hry hxy
    obtain ⟨hx1, hx2⟩ := Prod.mk.inj hxy
    subst hx1
    have ht : RdC A b (o + k * 17 + 1) x2.cells := hr.tail
    have ht' : RdC A b' (o' + k * 17 + 1) y2.cells := hr'.tail
    have hh : RdC A b (o + k * 17) [I64 x1] := hr.head
    have hh' : RdC A b' (o' + k * 17) [I64 x1] := hr'.head
    clear hr hr'
    refine Q.r ?_; (repeat (intro b1; refine Q.r ?_))
    refine D.start [22] [22] [0, 1, 2, 3, 4, 5, 6, 7, 8, 9, 10, 11, 12, 13, 14, 15, 16, 17, 18, 19, 20, 21, 22, 23, 24] _ [] rfl (by kernel_rfl) rfl (by kernel_rfl) NoPanic.no (Ent.refl _) ?_
    repeat (first | refine Q.dyn rfl rfl rfl ?_ | refine Q.dyl rfl rfl rfl ?_ | refine D.y rfl rfl rfl (by kernel_rfl) (by first | exact (Y.ldRj rfl (by first | assumption | exact RdC.sub (by assumption)) rfl) | exact Y.guard rfl (Y.ldRj rfl (by first | assumption | exact RdC.sub (by assumption)) rfl)) ?_ | refine D.endA ?_ | refine Q.dp rfl rfl rfl ?_ | refine Q.dy rfl rfl rfl ?_ | refine D.end_ ?_ | refine Q.endH ?_ | (refine D.e rfl rfl rfl ?_; (first | refine S.gskip1 rfl ?_ | refine S.gskip rfl ?_ | refine S.y (Y.gskipU rfl) ?_); refine opsS_nil ?_; refine N.tn ?_) | refine Q.dT rfl rfl rfl ?_ | refine Q.dF rfl rfl rfl ?_ | (refine D.e rfl rfl rfl ?_; (first | (refine GQ.a ?_; refine Q.al (fun b1 => ?_)) | (refine GQ.s ?_; refine Q.st ?_)); refine opsS_nil ?_; refine N.tn ?_))
    refine Q.dF rfl rfl rfl ?_ (by simp)
    repeat (first | refine Q.dyn rfl rfl rfl ?_ | refine Q.dyl rfl rfl rfl ?_ | refine D.y rfl rfl rfl (by kernel_rfl) (by first | exact (Y.ldRj rfl (by first | assumption | exact RdC.sub (by assumption)) rfl) | exact Y.guard rfl (Y.ldRj rfl (by first | assumption | exact RdC.sub (by assumption)) rfl)) ?_ | refine D.endA ?_ | refine Q.dp rfl rfl rfl ?_ | refine Q.dy rfl rfl rfl ?_ | refine D.end_ ?_ | refine Q.endH ?_ | (refine D.e rfl rfl rfl ?_; (first | refine S.gskip1 rfl ?_ | refine S.gskip rfl ?_ | refine S.y (Y.gskipU rfl) ?_); refine opsS_nil ?_; refine N.tn ?_) | refine Q.dT rfl rfl rfl ?_ | refine Q.dF rfl rfl rfl ?_ | (refine D.e rfl rfl rfl ?_; (first | (refine GQ.a ?_; refine Q.al (fun b1 => ?_)) | (refine GQ.s ?_; refine Q.st ?_)); refine opsS_nil ?_; refine N.tn ?_))
    refine Q.dc rfl rfl rfl rfl ?_
    rw [List.append_nil]
    refine S.guard rfl ?_
    refine S.cr (args := [x2.val, y2.val]) rfl (Same12_spec x2 y2 _ hrx.1 hry.1 hrx.2 hry.2 hx2) ?_
    rintro _ _ ⟨rfl, he⟩
    rw [he]
    clear he
    refine Q.r ?_; (repeat (intro b1; refine Q.r ?_))
    repeat (first | refine Q.dyn rfl rfl rfl ?_ | refine Q.dyl rfl rfl rfl ?_ | refine D.y rfl rfl rfl (by kernel_rfl) (by first | exact (Y.ldRj rfl (by first | assumption | exact RdC.sub (by assumption)) rfl) | exact Y.guard rfl (Y.ldRj rfl (by first | assumption | exact RdC.sub (by assumption)) rfl)) ?_ | refine D.endA ?_ | refine Q.dp rfl rfl rfl ?_ | refine Q.dy rfl rfl rfl ?_ | refine D.end_ ?_ | refine Q.endH ?_ | (refine D.e rfl rfl rfl ?_; (first | refine S.gskip1 rfl ?_ | refine S.gskip rfl ?_ | refine S.y (Y.gskipU rfl) ?_); refine opsS_nil ?_; refine N.tn ?_) | refine Q.dT rfl rfl rfl ?_ | refine Q.dF rfl rfl rfl ?_ | (refine D.e rfl rfl rfl ?_; (first | (refine GQ.a ?_; refine Q.al (fun b1 => ?_)) | (refine GQ.s ?_; refine Q.st ?_)); refine opsS_nil ?_; refine N.tn ?_))
    refine Q.r ?_; (repeat (intro b1; refine Q.r ?_))
    exact ⟨k + 1, ⟨rfl, rfl, rfl, rfl, trivial⟩, Ent.refl _, by omega, by omega⟩
  · have hke : k = xs.length := by omega
    subst hke
    refine Q.r ?_; (repeat (intro b1; refine Q.r ?_))
    exact N.r1 (RV.tmp rfl RV.nil) (Ent.refl _) ⟨rfl, rfl⟩
theorem SamePlan_spec (ra rb : Option Addr) (rc rd : Nat) (xs ys : List NV) (ma mb ea eb : Option Addr) (mc md ec ed : Nat) (ms ns es fs : List (Int × NV)) (A : List HP) (h : RdNs A ra xs) (h' : RdNs A rb ys) (hm : RdMs A ma ms) (hm' : RdMs A mb ns) (he : RdMs A ea es) (he' : RdMs A eb fs)
    (hn : xs.length ≤ 1000000) (hn2 : ms.length ≤ 1000000) (hn3 : es.length ≤ 1000000) (e1 : xs.map NV.abs = ys.map NV.abs) (e2 : ms.map (fun m => (m.1, m.2.abs)) = ns.map (fun m => (m.1, m.2.abs))) (e3 : es.map (fun m => (m.1, m.2.abs)) = fs.map (fun m => (m.1, m.2.abs))) :
    CallsS Tryz.prog 34 [.agg #[.slice ra xs.length rc, .slice ma ms.length mc, .slice ea es.length ec], .agg #[.slice rb ys.length rd, .slice mb ns.length md, .slice eb fs.length ed]] A (fun v L' => v = .bool true ∧ L' = A) := by
  refine CallsS.of_body Tryz.func34 rfl rfl rfl ?_
  refine Q.r ?_; (repeat (intro b1; refine Q.r ?_))
  refine S.cr rfl (SameAll_spec ra rc xs rb rd ys _ h.sub h'.sub hn e1) ?_
  rintro _ _ ⟨rfl, rfl⟩
  refine Q.r ?_; (repeat (intro b1; refine Q.r ?_))
  refine S.cr rfl (SameMail_spec ma mc ms mb md ns _ hm.sub hm'.sub hn2 e2) ?_
  rintro _ _ ⟨rfl, rfl⟩
  refine Q.r ?_; (repeat (intro b1; refine Q.r ?_))
  refine S.cr rfl (SameMail_spec ea ec es eb ed fs _ he.sub he'.sub hn3 e3) ?_
  rintro _ _ ⟨rfl, rfl⟩
  refine Q.r ?_; (repeat (intro b1; refine Q.r ?_))
  exact N.r1 (RV.tmp rfl RV.nil) (Ent.drop (Ent.drop (Ent.refl _))) ⟨rfl, rfl⟩
theorem back_spec (a : Option Addr) (c : Nat) (ms : List (Int × NV)) (A : List HP) (h : RdS A a ms.length 17 (ms.flatMap mcells)) (hn : ms.length ≤ 1000000) :
    CallsS Tryz.prog 21 [.slice a ms.length c] A (fun r L' => ∃ a' c', r = .slice a' ms.length c' ∧ L' = slO 135 17 a' ms.length c' (ms.flatMap mcells) :: A) := by
  refine CallsS.of_body Tryz.func21 rfl rfl rfl ?_
  refine Q.r ?_; (repeat (intro b1; refine Q.r ?_))
  refine swp_loop (σ := Nat × Option Addr × Nat × List (Int × NV)) (fun s => [(6, .slice a ms.length c), (7, .int .i64 ms.length), (3, .slice s.2.1 s.2.2.2.length s.2.2.1), (8, .int .i64 s.1)])
    (fun s => slO 135 17 s.2.1 s.2.2.2.length s.2.2.1 (s.2.2.2.flatMap mcells) :: A)
    (fun s => s.1 ≤ ms.length ∧ s.2.2.2 = ms.take s.1) (fun s => ms.length - s.1) (0, none, 0, []) ⟨rfl, rfl, rfl, rfl, trivial⟩ slO_nil ⟨by omega, by simp⟩ ?_
  rintro ⟨k, a3, c3, us⟩ ⟨hk, hus⟩
  dsimp only at hk hus ⊢
  have hul : us.length = k := by rw [hus, List.length_take]; omega
  by_cases hlt : k < ms.length
  · obtain ⟨q, hq⟩ := mem_get hlt
    have hrs : RdS (slO 135 17 a3 us.length c3 (us.flatMap mcells) :: A) a ms.length 17 (ms.flatMap mcells) := h.sub
    obtain ⟨b, oo, hia, hr⟩ := RdS.elem (g := mcells) (fun _ => rfl) hrs hq rfl
    clear hrs
    rw [hia]
    refine Q.r ?_; (repeat (intro b1; refine Q.r ?_))
    refine S.app rfl rfl (SrcS.sl RdC.row (by rfl) (by rfl)) (by rfl) (by omega) (by omega) (fun a7 c7 => ?_)
    refine Q.r ?_; (repeat (intro b1; refine Q.r ?_))
    refine ⟨(k + 1, a7, c7, us ++ [q]), ⟨rfl, rfl, congrArg some (by simp), rfl, trivial⟩, ?_, ⟨by dsimp only; omega, ?_⟩, by dsimp only; omega⟩
    · dsimp only
      rw [len_snoc, flat_snoc]
      repeat (first | exact Ent.refl _ | exact Ent.nil | refine Ent.pick ?_ | refine Ent.nilS ?_ | refine Ent.nilM ?_ | refine Ent.drop ?_)
    · dsimp only
      rw [take_snoc hq, ← hus]
  · have hke : k = ms.length := by omega
    subst hke
    rw [List.take_length] at hus
    subst hus
    refine Q.r ?_; (repeat (intro b1; refine Q.r ?_))
    exact N.r1 (RV.tmp rfl RV.nil) (Ent.refl _) ⟨a3, c3, rfl, rfl⟩
set_option maxHeartbeats 1000000 in
theorem plan_spec (ra : Option Addr) (rc : Nat) (xs : List NV) (ma : Option Addr) (mc : Nat) (ms : List (Int × NV)) (ea : Option Addr) (ec : Nat) (es : List (Int × NV)) (A : List HP) (h : RdS A ra xs.length 16 (xs.flatMap NV.cells)) (hm : RdS A ma ms.length 17 (ms.flatMap mcells)) (he : RdS A ea es.length 17 (es.flatMap mcells)) (h1 : xs.length ≤ 1000000) (h2 : ms.length ≤ 1000000) (h3 : es.length ≤ 1000000) :
    CallsS Tryz.prog 35 [.agg #[.slice ra xs.length rc, .slice ma ms.length mc, .slice ea es.length ec]] A (fun r L' => ∃ a1 c1 a2 c2 a3 c3, r = .agg #[.slice a1 xs.length c1, .slice a2 ms.length c2, .slice a3 es.length c3] ∧
      L' = slO 36 16 a1 xs.length c1 (xs.flatMap NV.cells) :: slO 135 17 a2 ms.length c2 (ms.flatMap mcells) :: slO 135 17 a3 es.length c3 (es.flatMap mcells) :: A) := by
  refine CallsS.of_body Tryz.func35 rfl rfl rfl ?_
  refine Q.r ?_; (repeat (intro b1; refine Q.r ?_))
  rename_i b0
  refine swp_cutB (σ := Option Addr × Nat) (fun s => [(1, .pointer (some ⟨b0, 0, none⟩)), (2, .pointer (some ⟨b1, 0, none⟩)), (3, .slice s.1 xs.length s.2)])
    (fun s => pt b1 (cl [.slice none 0 0, .slice none 0 0, .slice none 0 0] 97) :: pt b0 (cl [.slice ra xs.length rc, .slice ma ms.length mc, .slice ea es.length ec] 55) :: slO 36 16 s.1 xs.length s.2 (xs.flatMap NV.cells) :: A) (fun _ => True) ?_ ?_
  · refine swp_loop (σ := Nat × Option Addr × Nat × List NV) (fun s => [(1, .pointer (some ⟨b0, 0, none⟩)), (2, .pointer (some ⟨b1, 0, none⟩)), (7, .slice ra xs.length rc), (8, .int .i64 xs.length), (3, .slice s.2.1 s.2.2.2.length s.2.2.1), (9, .int .i64 s.1)])
      (fun s => slO 36 16 s.2.1 s.2.2.2.length s.2.2.1 (s.2.2.2.flatMap NV.cells) :: pt b1 (cl [.slice none 0 0, .slice none 0 0, .slice none 0 0] 97) :: pt b0 (cl [.slice ra xs.length rc, .slice ma ms.length mc, .slice ea es.length ec] 55) :: A)
      (fun s => s.1 ≤ xs.length ∧ s.2.2.2 = xs.take s.1) (fun s => xs.length - s.1) (0, none, 0, []) ⟨rfl, rfl, rfl, rfl, rfl, rfl, trivial⟩ slO_nil ⟨by omega, by simp⟩ ?_
    rintro ⟨k, a3, c3, us⟩ ⟨hk, hus⟩
    dsimp only at hk hus ⊢
    have hul : us.length = k := by rw [hus, List.length_take]; omega
    by_cases hlt : k < xs.length
    · obtain ⟨q, hq⟩ := mem_get hlt
      have hrs : RdS (slO 36 16 a3 us.length c3 (us.flatMap NV.cells) :: pt b1 (cl [.slice none 0 0, .slice none 0 0, .slice none 0 0] 97) :: pt b0 (cl [.slice ra xs.length rc, .slice ma ms.length mc, .slice ea es.length ec] 55) :: A) ra xs.length 16 (xs.flatMap NV.cells) := h.sub
      obtain ⟨b, oo, hia, hr⟩ := RdS.elem (g := NV.cells) (fun _ => rfl) hrs hq rfl
      clear hrs
      subst hia
      refine Q.r ?_; (repeat (intro b1; refine Q.r ?_))
      refine S.app rfl rfl (SrcS.sl RdC.row (by rfl) (by rfl)) (by rfl) (by omega) (by omega) (fun a7 c7 => ?_)
      refine Q.r ?_; (repeat (intro b1; refine Q.r ?_))
      refine ⟨(k + 1, a7, c7, us ++ [q]), ⟨rfl, rfl, rfl, rfl, congrArg some (by simp), rfl, trivial⟩, ?_, ⟨by dsimp only; omega, ?_⟩, by dsimp only; omega⟩
      · dsimp only
        rw [len_snoc, flat_snoc]
        repeat (first | exact Ent.refl _ | exact Ent.nil | refine Ent.pick ?_ | refine Ent.nilS ?_ | refine Ent.nilM ?_ | refine Ent.drop ?_)
      · dsimp only
        rw [take_snoc hq, ← hus]
    · have hke : k = xs.length := by omega
      subst hke
      rw [List.take_length] at hus
      subst hus
      refine Q.r ?_; (repeat (intro b1; refine Q.r ?_))
      exact ⟨(a3, c3), ⟨rfl, rfl, rfl, trivial⟩, by repeat (first | exact Ent.refl _ | exact Ent.nil | refine Ent.pick ?_ | refine Ent.nilS ?_ | refine Ent.nilM ?_ | refine Ent.drop ?_), trivial⟩
  rintro ⟨a1, c1⟩ _
  refine Q.r ?_; (repeat (intro b1; refine Q.r ?_))
  refine Q.dgo [false, true] [3, 6, 8] [] [0, 1, 2, 4, 5, 3, 6, 7, 8] ?_
  refine Q.rd ?_; (repeat (intro b1; refine Q.rd ?_))
  refine D.e rfl rfl rfl ?_
  refine S.cr rfl (back_spec ma mc ms _ hm.sub h2) ?_
  rintro _ _ ⟨a2, c2, rfl, rfl⟩
  refine Q.r ?_; (repeat (intro b1; refine Q.r ?_))
  refine Q.rd ?_; (repeat (intro b1; refine Q.rd ?_))
  refine D.e rfl rfl rfl ?_
  refine S.cr rfl (back_spec ea ec es _ he.sub h3) ?_
  rintro _ _ ⟨a3, c3, rfl, rfl⟩
  refine Q.r ?_; (repeat (intro b1; refine Q.r ?_))
  refine Q.rd ?_; (repeat (intro b1; refine Q.rd ?_))
  refine Q.r ?_; (repeat (intro b1; refine Q.r ?_))
  refine N.r1 (by apply RV.cellN; rfl; exact RdC.row; rfl; exact RV.nil) ?_ ⟨a1, c1, a2, c2, a3, c3, rfl, rfl⟩
  repeat (first | exact Ent.refl _ | exact Ent.nil | refine Ent.pick ?_ | refine Ent.nilS ?_ | refine Ent.nilM ?_ | refine Ent.drop ?_)
end Go.Proofs.YtjidejcehmamkaaGreatDoor
namespace Go.Proofs.YtjidejcehmamkaaGreatDoor
open Go Go.SX
attribute [local irreducible] swp opsS thenS blockS retS CallsS St Ent YieldS anyS drawS
structure EO where
  fr : Int
  n : NV
  w : Bool
  r : Bool
  ask : Int
  id : Int
abbrev EO.cells (o : EO) : List Value := [.int .i64 o.fr, .int .u8 o.n.kind, .int .u64 o.n.txn, .int .u64 o.n.batch, .int .u64 o.n.stamp, .int .u64 o.n.after, .int .u64 o.n.mark, .int .u64 o.n.query, .int .u64 o.n.id, .int .i64 o.n.k, .int .i64 o.n.ef, .int .i64 o.n.code, .int .i64 o.n.who,
  .slice o.n.pa o.n.parts.length o.n.pc, .slice o.n.oa o.n.ops.length o.n.oc, .slice o.n.va o.n.vec.length o.n.vc, .slice o.n.ha o.n.hits.length o.n.hc, .bool o.w, .bool o.r, .int .u64 o.ask, .int .u64 o.id]
structure EOK (M : Nat → Option Obj) (o : EO) : Prop where
  n : okN M o.n
  c : CapN o.n
  u : NumN o.n
  uu : NumA o.n.abs
theorem EOK.mono {M M' : Nat → Option Obj} {o : EO} (h : EOK M o) (hl : leM M M') : EOK M' o := ⟨h.n.mono hl, h.c, h.u, h.uu⟩
theorem NumN.few {n' : NV} {n : NV} (h : NumN n) (e : n'.abs = n.abs.few) : NumN n' := by
  have e1 : n'.kind = n.kind := congrArg NA.kind e
  have e2 : n'.txn = n.txn := congrArg NA.txn e
  have e3 : n'.stamp = n.stamp := congrArg NA.stamp e
  have e4 : n'.mark = n.mark := congrArg NA.mark e
  have e5 : n'.after = n.after := congrArg NA.after e
  exact ⟨by rw [e1]; exact h.kind, by rw [e2]; exact h.txn, by rw [e3]; exact h.stamp, by rw [e4]; exact h.mark, by rw [e5]; exact h.after⟩
section
variable {n : Nat} {ops rest : List Oper} {Q : Post} {f : Env} {L L0 : List HP} {M : Nat → Option Obj}
theorem S.cm {d : Tmp} {ty : TypeId} {pos : String} {af : Array Edge} {g : FuncId} {xs : Array Operand} {ats : Array TypeId} {args : List Value} {R : Value → List HP → Prop} [hm : PickM L M L0] [he : Enters Tryz.prog g] (hx : argsL f xs.toList = some args) (hc : CallsS Tryz.prog g args (roM M :: L0) R) (hk : ∀ v L', R v L' → opsS Tryz.prog n ops rest Q (upd f d v) L') :
    opsS Tryz.prog n ops (⟨some d, .call ⟨.value (.func g), xs, ats⟩, ty, pos, af, none⟩ :: rest) Q f L := opsS_ent hm.ent (S.cr hx hc hk)
end
structure OnceI (j : JS) (k : Nat) (P : List (Int × Bool)) : Prop where
  ok : JOK j k
  kP : keysOK P
  pr : ∀ t, (lkL j.v.its t).isSome = true → lkL P t = some true
end Go.Proofs.YtjidejcehmamkaaGreatDoor
namespace Go.Proofs.YtjidejcehmamkaaGreatDoor
open Go Go.SX
attribute [local irreducible] swp opsS thenS blockS retS CallsS St Ent YieldS anyS drawS
structure S5 where
  b9 : Nat
  b10 : Nat
  ra : Option Addr
  rc : Nat
  ma : Option Addr
  mc : Nat
  ea : Option Addr
  ec : Nat
  qa : Option Addr
  qc : Nat
  qb : Option Addr
  qd : Nat
  qe : Option Addr
  qf : Nat
  M : Nat → Option Obj
theorem NumA.few {n' : NV} {n : NV} (h : NumA n.abs) (e : n'.abs = n.abs.few) : NumA n'.abs := by
  rw [e]; exact ⟨h.kind, h.txn, h.batch, h.stamp, h.after, h.mark, h.query, h.id, h.k, h.ef, h.code, h.who⟩
structure RecOK (n2 n1 : NV) (r : NA) : Prop where
  e1 : (liftN n2 r).abs = r
  e2 : (liftQ n1 r).abs = r
  n2 : NumN (liftN n2 r)
  u1 : NumA (liftQ n1 r).abs
theorem rec_ok {n2 n1 : NV} (he : n2.abs = n1.abs) (u : NumA n1.abs) {r : NA} {f : Int} (hr : rightN r = true) (h : (r = { n1.abs with kind := 12 } ∧ n1.abs.kind = 3 ∧ f = 0) ∨ r = comN n1.abs.txn n1.abs.stamp ∨ r = aboN n1.abs.txn) : RecOK n2 n1 r := by
  have z0 : (0 : Int) ≤ 0 ∧ (0 : Int) ≤ 18446744073709551615 := by decide
  have z1 : (0 : Int) ≤ 9223372036854775807 := by decide
  rcases h with ⟨rfl, h3, _⟩ | rfl | rfl
  · have hr1 : rightN n1.abs = true := by
      unfold rightN at hr ⊢
      rw [h3]
      exact hr
    have hz := right3 u hr1 h3
    refine ⟨?_, ?_, ?_, ?_⟩
    · unfold liftN
      rw [if_pos rfl]
      show ({ n2.abs with kind := 12 } : NA) = _
      rw [he]
    · unfold liftQ
      rw [if_pos rfl]
      have := congrArg (fun z : NA => ({ z with kind := 12 } : NA)) hz
      exact this.symm
    · unfold liftN
      rw [if_pos rfl]
      have a1 : n2.txn = n1.txn := congrArg NA.txn he
      have a2 : n2.stamp = n1.stamp := congrArg NA.stamp he
      have a3 : n2.mark = n1.mark := congrArg NA.mark he
      have a4 : n2.after = n1.after := congrArg NA.after he
      exact ⟨by show (0 : Int) ≤ 12 ∧ (12 : Int) ≤ 255; decide, by show 0 ≤ n2.txn; rw [a1]; exact u.txn.1, by show 0 ≤ n2.stamp; rw [a2]; exact u.stamp.1, by show 0 ≤ n2.mark; rw [a3]; exact u.mark.1, by show 0 ≤ n2.after; rw [a4]; exact u.after.1⟩
    · unfold liftQ
      rw [if_pos rfl]
      exact ⟨by show (0 : Int) ≤ 12 ∧ (12 : Int) ≤ 255; decide, u.txn, z0, z0, u.after, z0, z0, z0, z1, z1, z1, z1⟩
  · exact ⟨rfl, rfl, ⟨by show (0 : Int) ≤ 13 ∧ (13 : Int) ≤ 255; decide, u.txn.1, u.stamp.1, Int.le_refl _, Int.le_refl _⟩, ⟨by show (0 : Int) ≤ 13 ∧ (13 : Int) ≤ 255; decide, u.txn, z0, u.stamp, z0, z0, z0, z0, z1, z1, z1, z1⟩⟩
  · exact ⟨rfl, rfl, ⟨by show (0 : Int) ≤ 14 ∧ (14 : Int) ≤ 255; decide, u.txn.1, Int.le_refl _, Int.le_refl _, Int.le_refl _⟩, ⟨by show (0 : Int) ≤ 14 ∧ (14 : Int) ≤ 255; decide, u.txn, z0, z0, z0, z0, z0, z0, z1, z1, z1, z1⟩⟩
theorem okN.lift {M : Nat → Option Obj} {n : NV} (h : okN M n) (r : NA) : okN M (liftN n r) := by
  unfold liftN
  split
  · exact ⟨h.p, h.o, h.v, h.h, h.hv⟩
  · exact okN.nv r
theorem OkN.lift {n : NV} (h : OkN n) (r : NA) : OkN (liftN n r) := by
  unfold liftN
  split
  · exact ⟨h.p, h.o, h.ov, h.v, h.h, h.hv⟩
  · exact OkN.nv r
theorem okN.liftQ {M : Nat → Option Obj} {n : NV} (h : okN M n) (r : NA) : okN M (liftQ n r) := by
  unfold Go.Proofs.YtjidejcehmamkaaGreatDoor.liftQ
  split
  · exact ⟨h.p, h.o, SlM.nil0, SlM.nil0, fun o ho => by cases ho⟩
  · exact okN.nv r
theorem OkN.liftQ {n : NV} (h : OkN n) (r : NA) : OkN (liftQ n r) := by
  unfold Go.Proofs.YtjidejcehmamkaaGreatDoor.liftQ
  split
  · exact ⟨h.p, h.o, h.ov, Nat.zero_le _, Nat.zero_le _, fun o ho => by cases ho⟩
  · exact OkN.nv r
abbrev nvm (m : Int × NA) : Int × NV := (m.1, m.2.nv)
theorem flat_mail (l : List (Int × NA)) : l.flatMap mailC = (l.map nvm).flatMap mcells := by rw [List.flatMap_map]
theorem flat_rec (g : NA → NV) (l : List NA) : (l.flatMap fun r => (g r).cells) = (l.map g).flatMap NV.cells := by rw [List.flatMap_map]
theorem mail_rd {M : Nat → Option Obj} {L : List HP} [HasM M L] {a : Option Addr} {l : List (Int × NA)} (h : SlM M a l.length 17 (l.flatMap mailC)) : RdMs L a (l.map nvm) := by
  rw [flat_mail, ← List.length_map (f := nvm)] at h
  refine ⟨h.rd, fun m hm => ?_⟩
  obtain ⟨u, hu, rfl⟩ := List.mem_map.1 hm
  exact ⟨(okN.nv (M := M) u.2).rd, OkN.nv u.2⟩
theorem rec_rd {M : Nat → Option Obj} {L : List HP} [HasM M L] {a : Option Addr} {l : List NA} {g : NA → NV} (h : SlM M a l.length 16 (l.flatMap fun r => (g r).cells)) (hg : ∀ r, okN M (g r) ∧ OkN (g r)) : RdNs L a (l.map g) := by
  rw [flat_rec, ← List.length_map (f := g)] at h
  refine ⟨h.rd, fun m hm => ?_⟩
  obtain ⟨u, hu, rfl⟩ := List.mem_map.1 hm
  exact ⟨(hg u).1.rd, (hg u).2⟩
theorem recs_rd {M : Nat → Option Obj} {L : List HP} [HasM M L] {a : Option Addr} {l : List NA} {g : NA → NV} (h : SlM M a l.length 16 ((l.map g).flatMap NV.cells)) (hg : ∀ r, okN M (g r) ∧ OkN (g r)) : RdNs L a (l.map g) := rec_rd (by rw [flat_rec]; exact h) hg
theorem mails_rd {M : Nat → Option Obj} {L : List HP} [HasM M L] {a : Option Addr} {l : List (Int × NA)} (h : SlM M a l.length 17 ((l.map nvm).flatMap mcells)) : RdMs L a (l.map nvm) := mail_rd (by rw [flat_mail]; exact h)
theorem rec_rdS {M : Nat → Option Obj} {L : List HP} [HasM M L] {a : Option Addr} {l : List NA} {g : NA → NV} (h : SlM M a l.length 16 (l.flatMap fun r => (g r).cells)) : RdS L a (l.map g).length 16 ((l.map g).flatMap NV.cells) := by
  rw [flat_rec, ← List.length_map (f := g)] at h
  exact h.rd
theorem mail_rdS {M : Nat → Option Obj} {L : List HP} [HasM M L] {a : Option Addr} {l : List (Int × NA)} (h : SlM M a l.length 17 (l.flatMap mailC)) : RdS L a (l.map nvm).length 17 ((l.map nvm).flatMap mcells) := (mail_rd h).1
theorem capQ {n : NV} (h : n.ops.length ≤ n.oc) (hv : ∀ o ∈ n.ops, o.vec.length ≤ o.c) (r : NA) : (liftQ n r).ops.length ≤ (liftQ n r).oc ∧ ∀ o ∈ (liftQ n r).ops, o.vec.length ≤ o.c := by
  unfold liftQ
  split
  · exact ⟨h, hv⟩
  · exact ⟨Nat.le_refl _, fun o ho => by cases ho⟩
theorem plan_len {j : JS} {f : Int} {n : NA} : (planV j f n).mail.length ≤ 1 ∧ (planV j f n).els.length ≤ 1 ∧ ∀ m ∈ (planV j f n).mail ++ (planV j f n).els, m.2.nv.abs = m.2 := by
  unfold planV prepV deciV
  repeat' split
  all_goals refine ⟨by simp [PA.none], by simp [PA.none], ?_⟩
  all_goals simp [PA.none]
theorem planL_spec (ra : Option Addr) (rc l1 l2 l3 : Nat) (xs : List NV) (ma : Option Addr) (mc : Nat) (ms : List (Int × NV)) (ea : Option Addr) (ec : Nat) (es : List (Int × NV)) (A : List HP) (e1 : l1 = xs.length) (e2 : l2 = ms.length) (e3 : l3 = es.length) (h : RdS A ra xs.length 16 (xs.flatMap NV.cells)) (hm : RdS A ma ms.length 17 (ms.flatMap mcells)) (he : RdS A ea es.length 17 (es.flatMap mcells)) (h1 : l1 ≤ 1) (h2 : l2 ≤ 1) (h3 : l3 ≤ 1) :
    CallsS Tryz.prog 35 [.agg #[.slice ra l1 rc, .slice ma l2 mc, .slice ea l3 ec]] A (fun r L' => ∃ a1 c1 a2 c2 a3 c3, r = .agg #[.slice a1 l1 c1, .slice a2 l2 c2, .slice a3 l3 c3] ∧
      L' = slO 36 16 a1 l1 c1 (xs.flatMap NV.cells) :: slO 135 17 a2 l2 c2 (ms.flatMap mcells) :: slO 135 17 a3 l3 c3 (es.flatMap mcells) :: A) := by
  subst e1 e2 e3
  exact plan_spec ra rc xs ma mc ms ea ec es A h hm he (by omega) (by omega) (by omega)
theorem SamePlanL_spec (ra rb : Option Addr) (rc rd l1 l2 l3 : Nat) (xs ys : List NV) (ma mb ea eb : Option Addr) (mc md ec ed : Nat) (ms ns es fs : List (Int × NV)) (A : List HP) (h : RdNs A ra xs) (h' : RdNs A rb ys) (hm : RdMs A ma ms) (hm' : RdMs A mb ns) (he : RdMs A ea es) (he' : RdMs A eb fs)
    (k1 : l1 = xs.length) (k2 : l2 = ms.length) (k3 : l3 = es.length) (hn : l1 ≤ 1) (hn2 : l2 ≤ 1) (hn3 : l3 ≤ 1) (e1 : xs.map NV.abs = ys.map NV.abs) (e2 : ms.map (fun m => (m.1, m.2.abs)) = ns.map (fun m => (m.1, m.2.abs))) (e3 : es.map (fun m => (m.1, m.2.abs)) = fs.map (fun m => (m.1, m.2.abs))) :
    CallsS Tryz.prog 34 [.agg #[.slice ra l1 rc, .slice ma l2 mc, .slice ea l3 ec], .agg #[.slice rb l1 rd, .slice mb l2 md, .slice eb l3 ed]] A (fun v L' => v = .bool true ∧ L' = A) := by
  subst k1 k2 k3
  have a1 : ys.length = xs.length := by have := congrArg List.length e1; simp at this; omega
  have a2 : ns.length = ms.length := by have := congrArg List.length e2; simp at this; omega
  have a3 : fs.length = es.length := by have := congrArg List.length e3; simp at this; omega
  have := SamePlan_spec ra rb rc rd xs ys ma mb ea eb mc md ec ed ms ns es fs A h h' hm hm' he he' (by omega) (by omega) (by omega) e1 e2 e3
  rw [a1, a2, a3] at this
  exact this
set_option maxHeartbeats 8000000 in
theorem step_spec (o : EO) (p x : Nat) (j : JS) (k : Nat) (M : Nat → Option Obj) (L : List HP) (hj : JOW j k) (hk : k ≤ 9000) (ho : EOK M o) (hT : TabM M) :
    CallsS Tryz.prog 11 [ptrJ p, .pointer (some ⟨x, 0, none⟩), .agg o.cells.toArray] (jurH M p j :: rjH x j :: roM M :: L) (fun r L' => ∃ M', r = .bool true ∧ leM M M' ∧ L' = jurH M' p (stepS j o.fr o.n.abs.few o.w o.r) :: rjH x (stepS j o.fr o.n.abs.few o.w o.r) :: roM M' :: L) := by
  refine CallsS.of_body Tryz.func11 rfl rfl rfl ?_
  refine Q.r ?_; (repeat (intro b1; refine Q.r ?_))
  revert b1
  intro bo
  refine S.cm (args := [o.n.val]) rfl (NFew_spec o.n M _ ho.n ho.c) ?_
  rintro _ _ ⟨n1, M1, rfl, hl1, hn1, hc1, hoc1, he1, rfl⟩
  have hN1 := few_OkN he1
  have hu1 := ho.u.few he1
  have hua1 : NumA n1.abs := NumA.few ho.uu he1
  refine opsS_jm p hl1 ?_
  cases hraw : o.r with
  | true =>
    rw [show stepS j o.fr o.n.abs.few o.w true = appS j o.n.abs.few from rfl]
    refine Q.r ?_; (repeat (intro b1; refine Q.r ?_))
    refine Q.dgo [true] [2, 3, 6] [] [0, 1, 4, 5, 2, 3, 6, 7, 8] ?_
    refine Q.rd ?_; (repeat (intro b1; refine Q.rd ?_))
    refine D.e rfl rfl rfl ?_
    refine S.cm (args := [n1.val]) rfl (NFew_spec n1 M1 _ hn1 hc1) ?_
    rintro _ _ ⟨n2, M2, rfl, hl2, hn2, hc2, hoc2, he2, rfl⟩
    have he21 : n2.abs = n1.abs := by rw [he2, he1, few_few]
    refine opsS_jm p hl2 ?_
    refine Q.r ?_; (repeat (intro b1; refine Q.r ?_))
    refine Q.rd ?_; (repeat (intro b1; refine Q.rd ?_))
    refine D.e rfl rfl rfl ?_
    refine S.cj p rfl (Apply_spec' n2 M2 p j k _ hj.w (by omega) hn2 (few_OkN he2) (hT.mono (hl1.trans hl2)) (hu1.few he2)) ?_
    rintro _ _ ⟨M3, rfl, hl3, rfl⟩
    refine Q.r ?_; (repeat (intro b1; refine Q.r ?_))
    refine Q.rd ?_; (repeat (intro b1; refine Q.rd ?_))
    refine D.e rfl rfl rfl ?_
    refine S.c2 rfl (RApp_spec n1 x j k M3 _ hj (by omega) (hn1.mono (hl2.trans hl3)) hN1 hoc1 hc1.ov hua1) ?_
    rintro _ _ ⟨rfl, rfl⟩
    rw [he21, he1]
    refine Q.r ?_; (repeat (intro b1; refine Q.r ?_))
    refine Q.rd ?_; (repeat (intro b1; refine Q.rd ?_))
    refine Q.r ?_; (repeat (intro b1; refine Q.r ?_))
    exact N.r1 (RV.tmp rfl RV.nil) (by repeat (first | exact Ent.refl _ | exact Ent.nil | refine Ent.pick ?_ | refine Ent.nilS ?_ | refine Ent.nilM ?_ | refine Ent.drop ?_)) ⟨M3, by rw [decide_eq_true rfl], hl1.trans (hl2.trans hl3), rfl⟩
  | false =>
    refine Q.r ?_; (repeat (intro b1; refine Q.r ?_))
    revert b1
    intro b7
    refine S.cm (args := [n1.val]) rfl (NFew_spec n1 M1 _ hn1 hc1) ?_
    rintro _ _ ⟨n2, M2, rfl, hl2, hn2, hc2, hoc2, he2, rfl⟩
    have he21 : n2.abs = n1.abs := by rw [he2, he1, few_few]
    have hN2 := few_OkN he2
    have hu2 := hu1.few he2
    refine opsS_jm p hl2 ?_
    refine Q.r ?_; (repeat (intro b1; refine Q.r ?_))
    revert b1
    intro b8
    have hone := plan_one hj (n := o.n.abs.few) ho.uu.txn.1 o.fr
    have hpl := plan_len (j := j) (f := o.fr) (n := o.n.abs.few)
    have hstw : stepS j o.fr o.n.abs.few true false = (planV j o.fr o.n.abs.few).rec_.foldl appS j := rfl
    have hstf : stepS j o.fr o.n.abs.few false false = j := rfl
    have e1 : planV j o.fr n1.abs = planV j o.fr o.n.abs.few := by rw [he1]
    have e2 : planV j o.fr n2.abs = planV j o.fr o.n.abs.few := by rw [he21, he1]
    generalize planV j o.fr o.n.abs.few = pl at hone hpl hstw e1 e2
    have hM2 : leM M M2 := hl1.trans hl2
    refine swp_cutT (σ := S5) (fun s => [(0, ptrJ p), (1, .pointer (some ⟨x, 0, none⟩)), (5, .pointer (some ⟨bo, 0, none⟩)), (7, .pointer (some ⟨b7, 0, none⟩)), (8, .pointer (some ⟨b8, 0, none⟩)), (9, .pointer (some ⟨s.b9, 0, none⟩)), (10, .pointer (some ⟨s.b10, 0, none⟩))])
      (fun s => pt s.b9 (cl [.slice s.ra pl.rec_.length s.rc, .slice s.ma pl.mail.length s.mc, .slice s.ea pl.els.length s.ec] 55) :: pt s.b10 (cl [.slice s.qa pl.rec_.length s.qc, .slice s.qb pl.mail.length s.qd, .slice s.qe pl.els.length s.qf] 97) ::
        pt b8 (cl n2.cells 57) :: pt b7 (cl n1.cells 36) :: pt bo (cl ({ o with r := false } : EO).cells 38) ::
        slO 57 16 s.ra pl.rec_.length s.rc (pl.rec_.flatMap fun r => (liftN n2 r).cells) :: slO 62 17 s.ma pl.mail.length s.mc (pl.mail.flatMap mailC) :: slO 62 17 s.ea pl.els.length s.ec (pl.els.flatMap mailC) ::
        slO 36 16 s.qa pl.rec_.length s.qc (pl.rec_.flatMap fun r => (liftQ n1 r).cells) :: slO 135 17 s.qb pl.mail.length s.qd (pl.mail.flatMap mailC) :: slO 135 17 s.qe pl.els.length s.qf (pl.els.flatMap mailC) :: jurH s.M p j :: rjH x j :: roM s.M :: L) (fun s => leM M2 s.M) ?_ ?_
    · refine Q.dgo [true, false, false, true, true] [4, 9, 10, 11, 12, 13] [] [0, 1, 2, 3, 5, 6, 7, 8, 99999, 0, 0, 0, 0, 0] ?_
      repeat (first | refine D.endA ?_ | refine Q.dp rfl rfl rfl ?_ | refine Q.dy rfl rfl rfl ?_ | refine D.end_ ?_ | refine Q.endH ?_ | (refine D.e rfl rfl rfl ?_; (first | refine S.gskip1 rfl ?_ | refine S.gskip rfl ?_ | refine S.y (Y.gskipU rfl) ?_); refine opsS_nil ?_; refine N.tn ?_))
      refine D.three 4 10 11 [99999, 0, 0, 0, 0] [99999, 0, 0, 0, 0] [99999, 0, 0, 0, 0] (by kernel_rfl) rfl rfl rfl rfl rfl rfl (by kernel_rfl) (by kernel_rfl) (by kernel_rfl) ?_ ?_ ?_
      · refine S.cj p rfl (Plan_spec n2 M2 p j k o.fr _ hj.w (by omega) hj.ne hn2 hN2 (hT.mono hM2) hu2.kind) ?_
        rintro _ _ ⟨ra, rc, ma, mc, ea, ec, M3, rfl, hl3, rfl⟩
        rw [e2]
        refine Q.r ?_; (repeat (intro b1; refine Q.r ?_))
        repeat (first | refine D.endA ?_ | refine Q.dp rfl rfl rfl ?_ | refine Q.dy rfl rfl rfl ?_ | refine D.end_ ?_ | refine Q.endH ?_ | (refine D.e rfl rfl rfl ?_; (first | refine S.gskip1 rfl ?_ | refine S.gskip rfl ?_ | refine S.y (Y.gskipU rfl) ?_); refine opsS_nil ?_; refine N.tn ?_))
        refine D.three 9 10 11 [99999, 0, 0, 0] [99999, 0, 0, 0] [99999, 0, 0, 0] (by kernel_rfl) rfl rfl rfl rfl rfl rfl (by kernel_rfl) (by kernel_rfl) (by kernel_rfl) ?_ ?_ ?_
        · refine S.c2 rfl (RDo_spec n1 x j k o.fr M3 _ hj (by omega) (hn1.mono (hl2.trans hl3)) hN1 hoc1 hua1) ?_
          rintro _ _ ⟨qa, qc, qb, qd, qe, qf, rfl, rfl⟩
          rw [e1]
          refine Q.r ?_; (repeat (intro b1; refine Q.r ?_))
          repeat (first | refine D.endA ?_ | refine Q.dp rfl rfl rfl ?_ | refine Q.dy rfl rfl rfl ?_ | refine D.end_ ?_ | refine Q.endH ?_ | (refine D.e rfl rfl rfl ?_; (first | refine S.gskip1 rfl ?_ | refine S.gskip rfl ?_ | refine S.y (Y.gskipU rfl) ?_); refine opsS_nil ?_; refine N.tn ?_))
          refine D.two 10 11 [11, 12, 13] [10, 12, 13] (by kernel_rfl) rfl rfl rfl rfl (by kernel_rfl) (by kernel_rfl) ?_ ?_
          · refine GQ.a ?_
            refine Q.al (fun b9 => ?_)
            refine Q.r ?_; (repeat (intro b1; refine Q.r ?_))
            repeat (first | refine D.endA ?_ | refine Q.dp rfl rfl rfl ?_ | refine Q.dy rfl rfl rfl ?_ | refine D.end_ ?_ | refine Q.endH ?_ | (refine D.e rfl rfl rfl ?_; (first | refine S.gskip1 rfl ?_ | refine S.gskip rfl ?_ | refine S.y (Y.gskipU rfl) ?_); refine opsS_nil ?_; refine N.tn ?_))
            refine D.e rfl rfl rfl ?_
            refine GQ.a ?_
            refine Q.al (fun b10 => ?_)
            refine Q.r ?_; (repeat (intro b1; refine Q.r ?_))
            repeat (first | refine D.endA ?_ | refine Q.dp rfl rfl rfl ?_ | refine Q.dy rfl rfl rfl ?_ | refine D.end_ ?_ | refine Q.endH ?_ | (refine D.e rfl rfl rfl ?_; (first | refine S.gskip1 rfl ?_ | refine S.gskip rfl ?_ | refine S.y (Y.gskipU rfl) ?_); refine opsS_nil ?_; refine N.tn ?_))
            refine D.e rfl rfl rfl ?_
            refine Q.r ?_; (repeat (intro b1; refine Q.r ?_))
            repeat (first | refine D.endA ?_ | refine Q.dp rfl rfl rfl ?_ | refine Q.dy rfl rfl rfl ?_ | refine D.end_ ?_ | refine Q.endH ?_ | (refine D.e rfl rfl rfl ?_; (first | refine S.gskip1 rfl ?_ | refine S.gskip rfl ?_ | refine S.y (Y.gskipU rfl) ?_); refine opsS_nil ?_; refine N.tn ?_))
            refine D.e rfl rfl rfl ?_
            refine Q.r ?_; (repeat (intro b1; refine Q.r ?_))
            repeat (first | refine D.endA ?_ | refine Q.dp rfl rfl rfl ?_ | refine Q.dy rfl rfl rfl ?_ | refine D.end_ ?_ | refine Q.endH ?_ | (refine D.e rfl rfl rfl ?_; (first | refine S.gskip1 rfl ?_ | refine S.gskip rfl ?_ | refine S.y (Y.gskipU rfl) ?_); refine opsS_nil ?_; refine N.tn ?_))
            repeat (first | refine D.endA ?_ | refine Q.dp rfl rfl rfl ?_ | refine Q.dy rfl rfl rfl ?_ | refine D.end_ ?_ | refine Q.endH ?_ | (refine D.e rfl rfl rfl ?_; (first | refine S.gskip1 rfl ?_ | refine S.gskip rfl ?_ | refine S.y (Y.gskipU rfl) ?_); refine opsS_nil ?_; refine N.tn ?_))
            refine N.tn ⟨⟨b9, b10, ra, rc, ma, mc, ea, ec, qa, qc, qb, qd, qe, qf, M3⟩, ⟨rfl, rfl, rfl, rfl, rfl, rfl, rfl, trivial⟩, ?_, hl3⟩
            (try dsimp only); repeat (first | exact Ent.refl _ | exact Ent.nil | refine Ent.pick ?_ | refine Ent.nilS ?_ | refine Ent.nilM ?_ | refine Ent.drop ?_)
          · refine GQ.a ?_
            refine Q.al (fun b10 => ?_)
            refine Q.r ?_; (repeat (intro b1; refine Q.r ?_))
            repeat (first | refine D.endA ?_ | refine Q.dp rfl rfl rfl ?_ | refine Q.dy rfl rfl rfl ?_ | refine D.end_ ?_ | refine Q.endH ?_ | (refine D.e rfl rfl rfl ?_; (first | refine S.gskip1 rfl ?_ | refine S.gskip rfl ?_ | refine S.y (Y.gskipU rfl) ?_); refine opsS_nil ?_; refine N.tn ?_))
            refine D.e rfl rfl rfl ?_
            refine GQ.a ?_
            refine Q.al (fun b9 => ?_)
            refine Q.r ?_; (repeat (intro b1; refine Q.r ?_))
            repeat (first | refine D.endA ?_ | refine Q.dp rfl rfl rfl ?_ | refine Q.dy rfl rfl rfl ?_ | refine D.end_ ?_ | refine Q.endH ?_ | (refine D.e rfl rfl rfl ?_; (first | refine S.gskip1 rfl ?_ | refine S.gskip rfl ?_ | refine S.y (Y.gskipU rfl) ?_); refine opsS_nil ?_; refine N.tn ?_))
            refine D.e rfl rfl rfl ?_
            refine Q.r ?_; (repeat (intro b1; refine Q.r ?_))
            repeat (first | refine D.endA ?_ | refine Q.dp rfl rfl rfl ?_ | refine Q.dy rfl rfl rfl ?_ | refine D.end_ ?_ | refine Q.endH ?_ | (refine D.e rfl rfl rfl ?_; (first | refine S.gskip1 rfl ?_ | refine S.gskip rfl ?_ | refine S.y (Y.gskipU rfl) ?_); refine opsS_nil ?_; refine N.tn ?_))
            refine D.e rfl rfl rfl ?_
            refine Q.r ?_; (repeat (intro b1; refine Q.r ?_))
            repeat (first | refine D.endA ?_ | refine Q.dp rfl rfl rfl ?_ | refine Q.dy rfl rfl rfl ?_ | refine D.end_ ?_ | refine Q.endH ?_ | (refine D.e rfl rfl rfl ?_; (first | refine S.gskip1 rfl ?_ | refine S.gskip rfl ?_ | refine S.y (Y.gskipU rfl) ?_); refine opsS_nil ?_; refine N.tn ?_))
            repeat (first | refine D.endA ?_ | refine Q.dp rfl rfl rfl ?_ | refine Q.dy rfl rfl rfl ?_ | refine D.end_ ?_ | refine Q.endH ?_ | (refine D.e rfl rfl rfl ?_; (first | refine S.gskip1 rfl ?_ | refine S.gskip rfl ?_ | refine S.y (Y.gskipU rfl) ?_); refine opsS_nil ?_; refine N.tn ?_))
            refine N.tn ⟨⟨b9, b10, ra, rc, ma, mc, ea, ec, qa, qc, qb, qd, qe, qf, M3⟩, ⟨rfl, rfl, rfl, rfl, rfl, rfl, rfl, trivial⟩, ?_, hl3⟩
            (try dsimp only); repeat (first | exact Ent.refl _ | exact Ent.nil | refine Ent.pick ?_ | refine Ent.nilS ?_ | refine Ent.nilM ?_ | refine Ent.drop ?_)
        · refine GQ.a ?_
          refine Q.al (fun b9 => ?_)
          refine Q.r ?_; (repeat (intro b1; refine Q.r ?_))
          repeat (first | refine D.endA ?_ | refine Q.dp rfl rfl rfl ?_ | refine Q.dy rfl rfl rfl ?_ | refine D.end_ ?_ | refine Q.endH ?_ | (refine D.e rfl rfl rfl ?_; (first | refine S.gskip1 rfl ?_ | refine S.gskip rfl ?_ | refine S.y (Y.gskipU rfl) ?_); refine opsS_nil ?_; refine N.tn ?_))
          refine D.two 9 11 [11, 12, 13] [9, 12, 13] (by kernel_rfl) rfl rfl rfl rfl (by kernel_rfl) (by kernel_rfl) ?_ ?_
          · refine S.c2 rfl (RDo_spec n1 x j k o.fr M3 _ hj (by omega) (hn1.mono (hl2.trans hl3)) hN1 hoc1 hua1) ?_
            rintro _ _ ⟨qa, qc, qb, qd, qe, qf, rfl, rfl⟩
            rw [e1]
            refine Q.r ?_; (repeat (intro b1; refine Q.r ?_))
            repeat (first | refine D.endA ?_ | refine Q.dp rfl rfl rfl ?_ | refine Q.dy rfl rfl rfl ?_ | refine D.end_ ?_ | refine Q.endH ?_ | (refine D.e rfl rfl rfl ?_; (first | refine S.gskip1 rfl ?_ | refine S.gskip rfl ?_ | refine S.y (Y.gskipU rfl) ?_); refine opsS_nil ?_; refine N.tn ?_))
            refine D.e rfl rfl rfl ?_
            refine GQ.a ?_
            refine Q.al (fun b10 => ?_)
            refine Q.r ?_; (repeat (intro b1; refine Q.r ?_))
            repeat (first | refine D.endA ?_ | refine Q.dp rfl rfl rfl ?_ | refine Q.dy rfl rfl rfl ?_ | refine D.end_ ?_ | refine Q.endH ?_ | (refine D.e rfl rfl rfl ?_; (first | refine S.gskip1 rfl ?_ | refine S.gskip rfl ?_ | refine S.y (Y.gskipU rfl) ?_); refine opsS_nil ?_; refine N.tn ?_))
            refine D.e rfl rfl rfl ?_
            refine Q.r ?_; (repeat (intro b1; refine Q.r ?_))
            repeat (first | refine D.endA ?_ | refine Q.dp rfl rfl rfl ?_ | refine Q.dy rfl rfl rfl ?_ | refine D.end_ ?_ | refine Q.endH ?_ | (refine D.e rfl rfl rfl ?_; (first | refine S.gskip1 rfl ?_ | refine S.gskip rfl ?_ | refine S.y (Y.gskipU rfl) ?_); refine opsS_nil ?_; refine N.tn ?_))
            refine D.e rfl rfl rfl ?_
            refine Q.r ?_; (repeat (intro b1; refine Q.r ?_))
            repeat (first | refine D.endA ?_ | refine Q.dp rfl rfl rfl ?_ | refine Q.dy rfl rfl rfl ?_ | refine D.end_ ?_ | refine Q.endH ?_ | (refine D.e rfl rfl rfl ?_; (first | refine S.gskip1 rfl ?_ | refine S.gskip rfl ?_ | refine S.y (Y.gskipU rfl) ?_); refine opsS_nil ?_; refine N.tn ?_))
            repeat (first | refine D.endA ?_ | refine Q.dp rfl rfl rfl ?_ | refine Q.dy rfl rfl rfl ?_ | refine D.end_ ?_ | refine Q.endH ?_ | (refine D.e rfl rfl rfl ?_; (first | refine S.gskip1 rfl ?_ | refine S.gskip rfl ?_ | refine S.y (Y.gskipU rfl) ?_); refine opsS_nil ?_; refine N.tn ?_))
            refine N.tn ⟨⟨b9, b10, ra, rc, ma, mc, ea, ec, qa, qc, qb, qd, qe, qf, M3⟩, ⟨rfl, rfl, rfl, rfl, rfl, rfl, rfl, trivial⟩, ?_, hl3⟩
            (try dsimp only); repeat (first | exact Ent.refl _ | exact Ent.nil | refine Ent.pick ?_ | refine Ent.nilS ?_ | refine Ent.nilM ?_ | refine Ent.drop ?_)
          · refine GQ.a ?_
            refine Q.al (fun b10 => ?_)
            refine Q.r ?_; (repeat (intro b1; refine Q.r ?_))
            repeat (first | refine D.endA ?_ | refine Q.dp rfl rfl rfl ?_ | refine Q.dy rfl rfl rfl ?_ | refine D.end_ ?_ | refine Q.endH ?_ | (refine D.e rfl rfl rfl ?_; (first | refine S.gskip1 rfl ?_ | refine S.gskip rfl ?_ | refine S.y (Y.gskipU rfl) ?_); refine opsS_nil ?_; refine N.tn ?_))
            refine D.e rfl rfl rfl ?_
            refine S.c2 rfl (RDo_spec n1 x j k o.fr M3 _ hj (by omega) (hn1.mono (hl2.trans hl3)) hN1 hoc1 hua1) ?_
            rintro _ _ ⟨qa, qc, qb, qd, qe, qf, rfl, rfl⟩
            rw [e1]
            refine Q.r ?_; (repeat (intro b1; refine Q.r ?_))
            repeat (first | refine D.endA ?_ | refine Q.dp rfl rfl rfl ?_ | refine Q.dy rfl rfl rfl ?_ | refine D.end_ ?_ | refine Q.endH ?_ | (refine D.e rfl rfl rfl ?_; (first | refine S.gskip1 rfl ?_ | refine S.gskip rfl ?_ | refine S.y (Y.gskipU rfl) ?_); refine opsS_nil ?_; refine N.tn ?_))
            refine D.e rfl rfl rfl ?_
            refine Q.r ?_; (repeat (intro b1; refine Q.r ?_))
            repeat (first | refine D.endA ?_ | refine Q.dp rfl rfl rfl ?_ | refine Q.dy rfl rfl rfl ?_ | refine D.end_ ?_ | refine Q.endH ?_ | (refine D.e rfl rfl rfl ?_; (first | refine S.gskip1 rfl ?_ | refine S.gskip rfl ?_ | refine S.y (Y.gskipU rfl) ?_); refine opsS_nil ?_; refine N.tn ?_))
            refine D.e rfl rfl rfl ?_
            refine Q.r ?_; (repeat (intro b1; refine Q.r ?_))
            repeat (first | refine D.endA ?_ | refine Q.dp rfl rfl rfl ?_ | refine Q.dy rfl rfl rfl ?_ | refine D.end_ ?_ | refine Q.endH ?_ | (refine D.e rfl rfl rfl ?_; (first | refine S.gskip1 rfl ?_ | refine S.gskip rfl ?_ | refine S.y (Y.gskipU rfl) ?_); refine opsS_nil ?_; refine N.tn ?_))
            repeat (first | refine D.endA ?_ | refine Q.dp rfl rfl rfl ?_ | refine Q.dy rfl rfl rfl ?_ | refine D.end_ ?_ | refine Q.endH ?_ | (refine D.e rfl rfl rfl ?_; (first | refine S.gskip1 rfl ?_ | refine S.gskip rfl ?_ | refine S.y (Y.gskipU rfl) ?_); refine opsS_nil ?_; refine N.tn ?_))
            refine N.tn ⟨⟨b9, b10, ra, rc, ma, mc, ea, ec, qa, qc, qb, qd, qe, qf, M3⟩, ⟨rfl, rfl, rfl, rfl, rfl, rfl, rfl, trivial⟩, ?_, hl3⟩
            (try dsimp only); repeat (first | exact Ent.refl _ | exact Ent.nil | refine Ent.pick ?_ | refine Ent.nilS ?_ | refine Ent.nilM ?_ | refine Ent.drop ?_)
        · refine GQ.a ?_
          refine Q.al (fun b10 => ?_)
          refine Q.r ?_; (repeat (intro b1; refine Q.r ?_))
          repeat (first | refine D.endA ?_ | refine Q.dp rfl rfl rfl ?_ | refine Q.dy rfl rfl rfl ?_ | refine D.end_ ?_ | refine Q.endH ?_ | (refine D.e rfl rfl rfl ?_; (first | refine S.gskip1 rfl ?_ | refine S.gskip rfl ?_ | refine S.y (Y.gskipU rfl) ?_); refine opsS_nil ?_; refine N.tn ?_))
          refine D.two 9 10 [10, 12, 13] [9, 12, 13] (by kernel_rfl) rfl rfl rfl rfl (by kernel_rfl) (by kernel_rfl) ?_ ?_
          · refine S.c2 rfl (RDo_spec n1 x j k o.fr M3 _ hj (by omega) (hn1.mono (hl2.trans hl3)) hN1 hoc1 hua1) ?_
            rintro _ _ ⟨qa, qc, qb, qd, qe, qf, rfl, rfl⟩
            rw [e1]
            refine Q.r ?_; (repeat (intro b1; refine Q.r ?_))
            repeat (first | refine D.endA ?_ | refine Q.dp rfl rfl rfl ?_ | refine Q.dy rfl rfl rfl ?_ | refine D.end_ ?_ | refine Q.endH ?_ | (refine D.e rfl rfl rfl ?_; (first | refine S.gskip1 rfl ?_ | refine S.gskip rfl ?_ | refine S.y (Y.gskipU rfl) ?_); refine opsS_nil ?_; refine N.tn ?_))
            refine D.e rfl rfl rfl ?_
            refine GQ.a ?_
            refine Q.al (fun b9 => ?_)
            refine Q.r ?_; (repeat (intro b1; refine Q.r ?_))
            repeat (first | refine D.endA ?_ | refine Q.dp rfl rfl rfl ?_ | refine Q.dy rfl rfl rfl ?_ | refine D.end_ ?_ | refine Q.endH ?_ | (refine D.e rfl rfl rfl ?_; (first | refine S.gskip1 rfl ?_ | refine S.gskip rfl ?_ | refine S.y (Y.gskipU rfl) ?_); refine opsS_nil ?_; refine N.tn ?_))
            refine D.e rfl rfl rfl ?_
            refine Q.r ?_; (repeat (intro b1; refine Q.r ?_))
            repeat (first | refine D.endA ?_ | refine Q.dp rfl rfl rfl ?_ | refine Q.dy rfl rfl rfl ?_ | refine D.end_ ?_ | refine Q.endH ?_ | (refine D.e rfl rfl rfl ?_; (first | refine S.gskip1 rfl ?_ | refine S.gskip rfl ?_ | refine S.y (Y.gskipU rfl) ?_); refine opsS_nil ?_; refine N.tn ?_))
            refine D.e rfl rfl rfl ?_
            refine Q.r ?_; (repeat (intro b1; refine Q.r ?_))
            repeat (first | refine D.endA ?_ | refine Q.dp rfl rfl rfl ?_ | refine Q.dy rfl rfl rfl ?_ | refine D.end_ ?_ | refine Q.endH ?_ | (refine D.e rfl rfl rfl ?_; (first | refine S.gskip1 rfl ?_ | refine S.gskip rfl ?_ | refine S.y (Y.gskipU rfl) ?_); refine opsS_nil ?_; refine N.tn ?_))
            repeat (first | refine D.endA ?_ | refine Q.dp rfl rfl rfl ?_ | refine Q.dy rfl rfl rfl ?_ | refine D.end_ ?_ | refine Q.endH ?_ | (refine D.e rfl rfl rfl ?_; (first | refine S.gskip1 rfl ?_ | refine S.gskip rfl ?_ | refine S.y (Y.gskipU rfl) ?_); refine opsS_nil ?_; refine N.tn ?_))
            refine N.tn ⟨⟨b9, b10, ra, rc, ma, mc, ea, ec, qa, qc, qb, qd, qe, qf, M3⟩, ⟨rfl, rfl, rfl, rfl, rfl, rfl, rfl, trivial⟩, ?_, hl3⟩
            (try dsimp only); repeat (first | exact Ent.refl _ | exact Ent.nil | refine Ent.pick ?_ | refine Ent.nilS ?_ | refine Ent.nilM ?_ | refine Ent.drop ?_)
          · refine GQ.a ?_
            refine Q.al (fun b9 => ?_)
            refine Q.r ?_; (repeat (intro b1; refine Q.r ?_))
            repeat (first | refine D.endA ?_ | refine Q.dp rfl rfl rfl ?_ | refine Q.dy rfl rfl rfl ?_ | refine D.end_ ?_ | refine Q.endH ?_ | (refine D.e rfl rfl rfl ?_; (first | refine S.gskip1 rfl ?_ | refine S.gskip rfl ?_ | refine S.y (Y.gskipU rfl) ?_); refine opsS_nil ?_; refine N.tn ?_))
            refine D.e rfl rfl rfl ?_
            refine S.c2 rfl (RDo_spec n1 x j k o.fr M3 _ hj (by omega) (hn1.mono (hl2.trans hl3)) hN1 hoc1 hua1) ?_
            rintro _ _ ⟨qa, qc, qb, qd, qe, qf, rfl, rfl⟩
            rw [e1]
            refine Q.r ?_; (repeat (intro b1; refine Q.r ?_))
            repeat (first | refine D.endA ?_ | refine Q.dp rfl rfl rfl ?_ | refine Q.dy rfl rfl rfl ?_ | refine D.end_ ?_ | refine Q.endH ?_ | (refine D.e rfl rfl rfl ?_; (first | refine S.gskip1 rfl ?_ | refine S.gskip rfl ?_ | refine S.y (Y.gskipU rfl) ?_); refine opsS_nil ?_; refine N.tn ?_))
            refine D.e rfl rfl rfl ?_
            refine Q.r ?_; (repeat (intro b1; refine Q.r ?_))
            repeat (first | refine D.endA ?_ | refine Q.dp rfl rfl rfl ?_ | refine Q.dy rfl rfl rfl ?_ | refine D.end_ ?_ | refine Q.endH ?_ | (refine D.e rfl rfl rfl ?_; (first | refine S.gskip1 rfl ?_ | refine S.gskip rfl ?_ | refine S.y (Y.gskipU rfl) ?_); refine opsS_nil ?_; refine N.tn ?_))
            refine D.e rfl rfl rfl ?_
            refine Q.r ?_; (repeat (intro b1; refine Q.r ?_))
            repeat (first | refine D.endA ?_ | refine Q.dp rfl rfl rfl ?_ | refine Q.dy rfl rfl rfl ?_ | refine D.end_ ?_ | refine Q.endH ?_ | (refine D.e rfl rfl rfl ?_; (first | refine S.gskip1 rfl ?_ | refine S.gskip rfl ?_ | refine S.y (Y.gskipU rfl) ?_); refine opsS_nil ?_; refine N.tn ?_))
            repeat (first | refine D.endA ?_ | refine Q.dp rfl rfl rfl ?_ | refine Q.dy rfl rfl rfl ?_ | refine D.end_ ?_ | refine Q.endH ?_ | (refine D.e rfl rfl rfl ?_; (first | refine S.gskip1 rfl ?_ | refine S.gskip rfl ?_ | refine S.y (Y.gskipU rfl) ?_); refine opsS_nil ?_; refine N.tn ?_))
            refine N.tn ⟨⟨b9, b10, ra, rc, ma, mc, ea, ec, qa, qc, qb, qd, qe, qf, M3⟩, ⟨rfl, rfl, rfl, rfl, rfl, rfl, rfl, trivial⟩, ?_, hl3⟩
            (try dsimp only); repeat (first | exact Ent.refl _ | exact Ent.nil | refine Ent.pick ?_ | refine Ent.nilS ?_ | refine Ent.nilM ?_ | refine Ent.drop ?_)
      · refine GQ.a ?_
        refine Q.al (fun b9 => ?_)
        refine Q.r ?_; (repeat (intro b1; refine Q.r ?_))
        repeat (first | refine D.endA ?_ | refine Q.dp rfl rfl rfl ?_ | refine Q.dy rfl rfl rfl ?_ | refine D.end_ ?_ | refine Q.endH ?_ | (refine D.e rfl rfl rfl ?_; (first | refine S.gskip1 rfl ?_ | refine S.gskip rfl ?_ | refine S.y (Y.gskipU rfl) ?_); refine opsS_nil ?_; refine N.tn ?_))
        refine D.two 4 11 [99999, 0, 0, 0] [4, 9, 12, 13] (by kernel_rfl) rfl rfl rfl rfl (by kernel_rfl) (by kernel_rfl) ?_ ?_
        · refine S.cj p rfl (Plan_spec n2 M2 p j k o.fr _ hj.w (by omega) hj.ne hn2 hN2 (hT.mono hM2) hu2.kind) ?_
          rintro _ _ ⟨ra, rc, ma, mc, ea, ec, M3, rfl, hl3, rfl⟩
          rw [e2]
          refine Q.r ?_; (repeat (intro b1; refine Q.r ?_))
          repeat (first | refine D.endA ?_ | refine Q.dp rfl rfl rfl ?_ | refine Q.dy rfl rfl rfl ?_ | refine D.end_ ?_ | refine Q.endH ?_ | (refine D.e rfl rfl rfl ?_; (first | refine S.gskip1 rfl ?_ | refine S.gskip rfl ?_ | refine S.y (Y.gskipU rfl) ?_); refine opsS_nil ?_; refine N.tn ?_))
          refine D.two 9 11 [11, 12, 13] [9, 12, 13] (by kernel_rfl) rfl rfl rfl rfl (by kernel_rfl) (by kernel_rfl) ?_ ?_
          · refine S.c2 rfl (RDo_spec n1 x j k o.fr M3 _ hj (by omega) (hn1.mono (hl2.trans hl3)) hN1 hoc1 hua1) ?_
            rintro _ _ ⟨qa, qc, qb, qd, qe, qf, rfl, rfl⟩
            rw [e1]
            refine Q.r ?_; (repeat (intro b1; refine Q.r ?_))
            repeat (first | refine D.endA ?_ | refine Q.dp rfl rfl rfl ?_ | refine Q.dy rfl rfl rfl ?_ | refine D.end_ ?_ | refine Q.endH ?_ | (refine D.e rfl rfl rfl ?_; (first | refine S.gskip1 rfl ?_ | refine S.gskip rfl ?_ | refine S.y (Y.gskipU rfl) ?_); refine opsS_nil ?_; refine N.tn ?_))
            refine D.e rfl rfl rfl ?_
            refine GQ.a ?_
            refine Q.al (fun b10 => ?_)
            refine Q.r ?_; (repeat (intro b1; refine Q.r ?_))
            repeat (first | refine D.endA ?_ | refine Q.dp rfl rfl rfl ?_ | refine Q.dy rfl rfl rfl ?_ | refine D.end_ ?_ | refine Q.endH ?_ | (refine D.e rfl rfl rfl ?_; (first | refine S.gskip1 rfl ?_ | refine S.gskip rfl ?_ | refine S.y (Y.gskipU rfl) ?_); refine opsS_nil ?_; refine N.tn ?_))
            refine D.e rfl rfl rfl ?_
            refine Q.r ?_; (repeat (intro b1; refine Q.r ?_))
            repeat (first | refine D.endA ?_ | refine Q.dp rfl rfl rfl ?_ | refine Q.dy rfl rfl rfl ?_ | refine D.end_ ?_ | refine Q.endH ?_ | (refine D.e rfl rfl rfl ?_; (first | refine S.gskip1 rfl ?_ | refine S.gskip rfl ?_ | refine S.y (Y.gskipU rfl) ?_); refine opsS_nil ?_; refine N.tn ?_))
            refine D.e rfl rfl rfl ?_
            refine Q.r ?_; (repeat (intro b1; refine Q.r ?_))
            repeat (first | refine D.endA ?_ | refine Q.dp rfl rfl rfl ?_ | refine Q.dy rfl rfl rfl ?_ | refine D.end_ ?_ | refine Q.endH ?_ | (refine D.e rfl rfl rfl ?_; (first | refine S.gskip1 rfl ?_ | refine S.gskip rfl ?_ | refine S.y (Y.gskipU rfl) ?_); refine opsS_nil ?_; refine N.tn ?_))
            repeat (first | refine D.endA ?_ | refine Q.dp rfl rfl rfl ?_ | refine Q.dy rfl rfl rfl ?_ | refine D.end_ ?_ | refine Q.endH ?_ | (refine D.e rfl rfl rfl ?_; (first | refine S.gskip1 rfl ?_ | refine S.gskip rfl ?_ | refine S.y (Y.gskipU rfl) ?_); refine opsS_nil ?_; refine N.tn ?_))
            refine N.tn ⟨⟨b9, b10, ra, rc, ma, mc, ea, ec, qa, qc, qb, qd, qe, qf, M3⟩, ⟨rfl, rfl, rfl, rfl, rfl, rfl, rfl, trivial⟩, ?_, hl3⟩
            (try dsimp only); repeat (first | exact Ent.refl _ | exact Ent.nil | refine Ent.pick ?_ | refine Ent.nilS ?_ | refine Ent.nilM ?_ | refine Ent.drop ?_)
          · refine GQ.a ?_
            refine Q.al (fun b10 => ?_)
            refine Q.r ?_; (repeat (intro b1; refine Q.r ?_))
            repeat (first | refine D.endA ?_ | refine Q.dp rfl rfl rfl ?_ | refine Q.dy rfl rfl rfl ?_ | refine D.end_ ?_ | refine Q.endH ?_ | (refine D.e rfl rfl rfl ?_; (first | refine S.gskip1 rfl ?_ | refine S.gskip rfl ?_ | refine S.y (Y.gskipU rfl) ?_); refine opsS_nil ?_; refine N.tn ?_))
            refine D.e rfl rfl rfl ?_
            refine S.c2 rfl (RDo_spec n1 x j k o.fr M3 _ hj (by omega) (hn1.mono (hl2.trans hl3)) hN1 hoc1 hua1) ?_
            rintro _ _ ⟨qa, qc, qb, qd, qe, qf, rfl, rfl⟩
            rw [e1]
            refine Q.r ?_; (repeat (intro b1; refine Q.r ?_))
            repeat (first | refine D.endA ?_ | refine Q.dp rfl rfl rfl ?_ | refine Q.dy rfl rfl rfl ?_ | refine D.end_ ?_ | refine Q.endH ?_ | (refine D.e rfl rfl rfl ?_; (first | refine S.gskip1 rfl ?_ | refine S.gskip rfl ?_ | refine S.y (Y.gskipU rfl) ?_); refine opsS_nil ?_; refine N.tn ?_))
            refine D.e rfl rfl rfl ?_
            refine Q.r ?_; (repeat (intro b1; refine Q.r ?_))
            repeat (first | refine D.endA ?_ | refine Q.dp rfl rfl rfl ?_ | refine Q.dy rfl rfl rfl ?_ | refine D.end_ ?_ | refine Q.endH ?_ | (refine D.e rfl rfl rfl ?_; (first | refine S.gskip1 rfl ?_ | refine S.gskip rfl ?_ | refine S.y (Y.gskipU rfl) ?_); refine opsS_nil ?_; refine N.tn ?_))
            refine D.e rfl rfl rfl ?_
            refine Q.r ?_; (repeat (intro b1; refine Q.r ?_))
            repeat (first | refine D.endA ?_ | refine Q.dp rfl rfl rfl ?_ | refine Q.dy rfl rfl rfl ?_ | refine D.end_ ?_ | refine Q.endH ?_ | (refine D.e rfl rfl rfl ?_; (first | refine S.gskip1 rfl ?_ | refine S.gskip rfl ?_ | refine S.y (Y.gskipU rfl) ?_); refine opsS_nil ?_; refine N.tn ?_))
            repeat (first | refine D.endA ?_ | refine Q.dp rfl rfl rfl ?_ | refine Q.dy rfl rfl rfl ?_ | refine D.end_ ?_ | refine Q.endH ?_ | (refine D.e rfl rfl rfl ?_; (first | refine S.gskip1 rfl ?_ | refine S.gskip rfl ?_ | refine S.y (Y.gskipU rfl) ?_); refine opsS_nil ?_; refine N.tn ?_))
            refine N.tn ⟨⟨b9, b10, ra, rc, ma, mc, ea, ec, qa, qc, qb, qd, qe, qf, M3⟩, ⟨rfl, rfl, rfl, rfl, rfl, rfl, rfl, trivial⟩, ?_, hl3⟩
            (try dsimp only); repeat (first | exact Ent.refl _ | exact Ent.nil | refine Ent.pick ?_ | refine Ent.nilS ?_ | refine Ent.nilM ?_ | refine Ent.drop ?_)
        · refine GQ.a ?_
          refine Q.al (fun b10 => ?_)
          refine Q.r ?_; (repeat (intro b1; refine Q.r ?_))
          repeat (first | refine D.endA ?_ | refine Q.dp rfl rfl rfl ?_ | refine Q.dy rfl rfl rfl ?_ | refine D.end_ ?_ | refine Q.endH ?_ | (refine D.e rfl rfl rfl ?_; (first | refine S.gskip1 rfl ?_ | refine S.gskip rfl ?_ | refine S.y (Y.gskipU rfl) ?_); refine opsS_nil ?_; refine N.tn ?_))
          refine D.e rfl rfl rfl ?_
          refine S.cj p rfl (Plan_spec n2 M2 p j k o.fr _ hj.w (by omega) hj.ne hn2 hN2 (hT.mono hM2) hu2.kind) ?_
          rintro _ _ ⟨ra, rc, ma, mc, ea, ec, M3, rfl, hl3, rfl⟩
          rw [e2]
          refine Q.r ?_; (repeat (intro b1; refine Q.r ?_))
          repeat (first | refine D.endA ?_ | refine Q.dp rfl rfl rfl ?_ | refine Q.dy rfl rfl rfl ?_ | refine D.end_ ?_ | refine Q.endH ?_ | (refine D.e rfl rfl rfl ?_; (first | refine S.gskip1 rfl ?_ | refine S.gskip rfl ?_ | refine S.y (Y.gskipU rfl) ?_); refine opsS_nil ?_; refine N.tn ?_))
          refine D.e rfl rfl rfl ?_
          refine S.c2 rfl (RDo_spec n1 x j k o.fr M3 _ hj (by omega) (hn1.mono (hl2.trans hl3)) hN1 hoc1 hua1) ?_
          rintro _ _ ⟨qa, qc, qb, qd, qe, qf, rfl, rfl⟩
          rw [e1]
          refine Q.r ?_; (repeat (intro b1; refine Q.r ?_))
          repeat (first | refine D.endA ?_ | refine Q.dp rfl rfl rfl ?_ | refine Q.dy rfl rfl rfl ?_ | refine D.end_ ?_ | refine Q.endH ?_ | (refine D.e rfl rfl rfl ?_; (first | refine S.gskip1 rfl ?_ | refine S.gskip rfl ?_ | refine S.y (Y.gskipU rfl) ?_); refine opsS_nil ?_; refine N.tn ?_))
          refine D.e rfl rfl rfl ?_
          refine Q.r ?_; (repeat (intro b1; refine Q.r ?_))
          repeat (first | refine D.endA ?_ | refine Q.dp rfl rfl rfl ?_ | refine Q.dy rfl rfl rfl ?_ | refine D.end_ ?_ | refine Q.endH ?_ | (refine D.e rfl rfl rfl ?_; (first | refine S.gskip1 rfl ?_ | refine S.gskip rfl ?_ | refine S.y (Y.gskipU rfl) ?_); refine opsS_nil ?_; refine N.tn ?_))
          refine D.e rfl rfl rfl ?_
          refine Q.r ?_; (repeat (intro b1; refine Q.r ?_))
          repeat (first | refine D.endA ?_ | refine Q.dp rfl rfl rfl ?_ | refine Q.dy rfl rfl rfl ?_ | refine D.end_ ?_ | refine Q.endH ?_ | (refine D.e rfl rfl rfl ?_; (first | refine S.gskip1 rfl ?_ | refine S.gskip rfl ?_ | refine S.y (Y.gskipU rfl) ?_); refine opsS_nil ?_; refine N.tn ?_))
          repeat (first | refine D.endA ?_ | refine Q.dp rfl rfl rfl ?_ | refine Q.dy rfl rfl rfl ?_ | refine D.end_ ?_ | refine Q.endH ?_ | (refine D.e rfl rfl rfl ?_; (first | refine S.gskip1 rfl ?_ | refine S.gskip rfl ?_ | refine S.y (Y.gskipU rfl) ?_); refine opsS_nil ?_; refine N.tn ?_))
          refine N.tn ⟨⟨b9, b10, ra, rc, ma, mc, ea, ec, qa, qc, qb, qd, qe, qf, M3⟩, ⟨rfl, rfl, rfl, rfl, rfl, rfl, rfl, trivial⟩, ?_, hl3⟩
          (try dsimp only); repeat (first | exact Ent.refl _ | exact Ent.nil | refine Ent.pick ?_ | refine Ent.nilS ?_ | refine Ent.nilM ?_ | refine Ent.drop ?_)
      · refine GQ.a ?_
        refine Q.al (fun b10 => ?_)
        refine Q.r ?_; (repeat (intro b1; refine Q.r ?_))
        repeat (first | refine D.endA ?_ | refine Q.dp rfl rfl rfl ?_ | refine Q.dy rfl rfl rfl ?_ | refine D.end_ ?_ | refine Q.endH ?_ | (refine D.e rfl rfl rfl ?_; (first | refine S.gskip1 rfl ?_ | refine S.gskip rfl ?_ | refine S.y (Y.gskipU rfl) ?_); refine opsS_nil ?_; refine N.tn ?_))
        refine D.two 4 10 [99999, 0, 0, 0] [4, 9, 12, 13] (by kernel_rfl) rfl rfl rfl rfl (by kernel_rfl) (by kernel_rfl) ?_ ?_
        · refine S.cj p rfl (Plan_spec n2 M2 p j k o.fr _ hj.w (by omega) hj.ne hn2 hN2 (hT.mono hM2) hu2.kind) ?_
          rintro _ _ ⟨ra, rc, ma, mc, ea, ec, M3, rfl, hl3, rfl⟩
          rw [e2]
          refine Q.r ?_; (repeat (intro b1; refine Q.r ?_))
          repeat (first | refine D.endA ?_ | refine Q.dp rfl rfl rfl ?_ | refine Q.dy rfl rfl rfl ?_ | refine D.end_ ?_ | refine Q.endH ?_ | (refine D.e rfl rfl rfl ?_; (first | refine S.gskip1 rfl ?_ | refine S.gskip rfl ?_ | refine S.y (Y.gskipU rfl) ?_); refine opsS_nil ?_; refine N.tn ?_))
          refine D.two 9 10 [10, 12, 13] [9, 12, 13] (by kernel_rfl) rfl rfl rfl rfl (by kernel_rfl) (by kernel_rfl) ?_ ?_
          · refine S.c2 rfl (RDo_spec n1 x j k o.fr M3 _ hj (by omega) (hn1.mono (hl2.trans hl3)) hN1 hoc1 hua1) ?_
            rintro _ _ ⟨qa, qc, qb, qd, qe, qf, rfl, rfl⟩
            rw [e1]
            refine Q.r ?_; (repeat (intro b1; refine Q.r ?_))
            repeat (first | refine D.endA ?_ | refine Q.dp rfl rfl rfl ?_ | refine Q.dy rfl rfl rfl ?_ | refine D.end_ ?_ | refine Q.endH ?_ | (refine D.e rfl rfl rfl ?_; (first | refine S.gskip1 rfl ?_ | refine S.gskip rfl ?_ | refine S.y (Y.gskipU rfl) ?_); refine opsS_nil ?_; refine N.tn ?_))
            refine D.e rfl rfl rfl ?_
            refine GQ.a ?_
            refine Q.al (fun b9 => ?_)
            refine Q.r ?_; (repeat (intro b1; refine Q.r ?_))
            repeat (first | refine D.endA ?_ | refine Q.dp rfl rfl rfl ?_ | refine Q.dy rfl rfl rfl ?_ | refine D.end_ ?_ | refine Q.endH ?_ | (refine D.e rfl rfl rfl ?_; (first | refine S.gskip1 rfl ?_ | refine S.gskip rfl ?_ | refine S.y (Y.gskipU rfl) ?_); refine opsS_nil ?_; refine N.tn ?_))
            refine D.e rfl rfl rfl ?_
            refine Q.r ?_; (repeat (intro b1; refine Q.r ?_))
            repeat (first | refine D.endA ?_ | refine Q.dp rfl rfl rfl ?_ | refine Q.dy rfl rfl rfl ?_ | refine D.end_ ?_ | refine Q.endH ?_ | (refine D.e rfl rfl rfl ?_; (first | refine S.gskip1 rfl ?_ | refine S.gskip rfl ?_ | refine S.y (Y.gskipU rfl) ?_); refine opsS_nil ?_; refine N.tn ?_))
            refine D.e rfl rfl rfl ?_
            refine Q.r ?_; (repeat (intro b1; refine Q.r ?_))
            repeat (first | refine D.endA ?_ | refine Q.dp rfl rfl rfl ?_ | refine Q.dy rfl rfl rfl ?_ | refine D.end_ ?_ | refine Q.endH ?_ | (refine D.e rfl rfl rfl ?_; (first | refine S.gskip1 rfl ?_ | refine S.gskip rfl ?_ | refine S.y (Y.gskipU rfl) ?_); refine opsS_nil ?_; refine N.tn ?_))
            repeat (first | refine D.endA ?_ | refine Q.dp rfl rfl rfl ?_ | refine Q.dy rfl rfl rfl ?_ | refine D.end_ ?_ | refine Q.endH ?_ | (refine D.e rfl rfl rfl ?_; (first | refine S.gskip1 rfl ?_ | refine S.gskip rfl ?_ | refine S.y (Y.gskipU rfl) ?_); refine opsS_nil ?_; refine N.tn ?_))
            refine N.tn ⟨⟨b9, b10, ra, rc, ma, mc, ea, ec, qa, qc, qb, qd, qe, qf, M3⟩, ⟨rfl, rfl, rfl, rfl, rfl, rfl, rfl, trivial⟩, ?_, hl3⟩
            (try dsimp only); repeat (first | exact Ent.refl _ | exact Ent.nil | refine Ent.pick ?_ | refine Ent.nilS ?_ | refine Ent.nilM ?_ | refine Ent.drop ?_)
          · refine GQ.a ?_
            refine Q.al (fun b9 => ?_)
            refine Q.r ?_; (repeat (intro b1; refine Q.r ?_))
            repeat (first | refine D.endA ?_ | refine Q.dp rfl rfl rfl ?_ | refine Q.dy rfl rfl rfl ?_ | refine D.end_ ?_ | refine Q.endH ?_ | (refine D.e rfl rfl rfl ?_; (first | refine S.gskip1 rfl ?_ | refine S.gskip rfl ?_ | refine S.y (Y.gskipU rfl) ?_); refine opsS_nil ?_; refine N.tn ?_))
            refine D.e rfl rfl rfl ?_
            refine S.c2 rfl (RDo_spec n1 x j k o.fr M3 _ hj (by omega) (hn1.mono (hl2.trans hl3)) hN1 hoc1 hua1) ?_
            rintro _ _ ⟨qa, qc, qb, qd, qe, qf, rfl, rfl⟩
            rw [e1]
            refine Q.r ?_; (repeat (intro b1; refine Q.r ?_))
            repeat (first | refine D.endA ?_ | refine Q.dp rfl rfl rfl ?_ | refine Q.dy rfl rfl rfl ?_ | refine D.end_ ?_ | refine Q.endH ?_ | (refine D.e rfl rfl rfl ?_; (first | refine S.gskip1 rfl ?_ | refine S.gskip rfl ?_ | refine S.y (Y.gskipU rfl) ?_); refine opsS_nil ?_; refine N.tn ?_))
            refine D.e rfl rfl rfl ?_
            refine Q.r ?_; (repeat (intro b1; refine Q.r ?_))
            repeat (first | refine D.endA ?_ | refine Q.dp rfl rfl rfl ?_ | refine Q.dy rfl rfl rfl ?_ | refine D.end_ ?_ | refine Q.endH ?_ | (refine D.e rfl rfl rfl ?_; (first | refine S.gskip1 rfl ?_ | refine S.gskip rfl ?_ | refine S.y (Y.gskipU rfl) ?_); refine opsS_nil ?_; refine N.tn ?_))
            refine D.e rfl rfl rfl ?_
            refine Q.r ?_; (repeat (intro b1; refine Q.r ?_))
            repeat (first | refine D.endA ?_ | refine Q.dp rfl rfl rfl ?_ | refine Q.dy rfl rfl rfl ?_ | refine D.end_ ?_ | refine Q.endH ?_ | (refine D.e rfl rfl rfl ?_; (first | refine S.gskip1 rfl ?_ | refine S.gskip rfl ?_ | refine S.y (Y.gskipU rfl) ?_); refine opsS_nil ?_; refine N.tn ?_))
            repeat (first | refine D.endA ?_ | refine Q.dp rfl rfl rfl ?_ | refine Q.dy rfl rfl rfl ?_ | refine D.end_ ?_ | refine Q.endH ?_ | (refine D.e rfl rfl rfl ?_; (first | refine S.gskip1 rfl ?_ | refine S.gskip rfl ?_ | refine S.y (Y.gskipU rfl) ?_); refine opsS_nil ?_; refine N.tn ?_))
            refine N.tn ⟨⟨b9, b10, ra, rc, ma, mc, ea, ec, qa, qc, qb, qd, qe, qf, M3⟩, ⟨rfl, rfl, rfl, rfl, rfl, rfl, rfl, trivial⟩, ?_, hl3⟩
            (try dsimp only); repeat (first | exact Ent.refl _ | exact Ent.nil | refine Ent.pick ?_ | refine Ent.nilS ?_ | refine Ent.nilM ?_ | refine Ent.drop ?_)
        · refine GQ.a ?_
          refine Q.al (fun b9 => ?_)
          refine Q.r ?_; (repeat (intro b1; refine Q.r ?_))
          repeat (first | refine D.endA ?_ | refine Q.dp rfl rfl rfl ?_ | refine Q.dy rfl rfl rfl ?_ | refine D.end_ ?_ | refine Q.endH ?_ | (refine D.e rfl rfl rfl ?_; (first | refine S.gskip1 rfl ?_ | refine S.gskip rfl ?_ | refine S.y (Y.gskipU rfl) ?_); refine opsS_nil ?_; refine N.tn ?_))
          refine D.e rfl rfl rfl ?_
          refine S.cj p rfl (Plan_spec n2 M2 p j k o.fr _ hj.w (by omega) hj.ne hn2 hN2 (hT.mono hM2) hu2.kind) ?_
          rintro _ _ ⟨ra, rc, ma, mc, ea, ec, M3, rfl, hl3, rfl⟩
          rw [e2]
          refine Q.r ?_; (repeat (intro b1; refine Q.r ?_))
          repeat (first | refine D.endA ?_ | refine Q.dp rfl rfl rfl ?_ | refine Q.dy rfl rfl rfl ?_ | refine D.end_ ?_ | refine Q.endH ?_ | (refine D.e rfl rfl rfl ?_; (first | refine S.gskip1 rfl ?_ | refine S.gskip rfl ?_ | refine S.y (Y.gskipU rfl) ?_); refine opsS_nil ?_; refine N.tn ?_))
          refine D.e rfl rfl rfl ?_
          refine S.c2 rfl (RDo_spec n1 x j k o.fr M3 _ hj (by omega) (hn1.mono (hl2.trans hl3)) hN1 hoc1 hua1) ?_
          rintro _ _ ⟨qa, qc, qb, qd, qe, qf, rfl, rfl⟩
          rw [e1]
          refine Q.r ?_; (repeat (intro b1; refine Q.r ?_))
          repeat (first | refine D.endA ?_ | refine Q.dp rfl rfl rfl ?_ | refine Q.dy rfl rfl rfl ?_ | refine D.end_ ?_ | refine Q.endH ?_ | (refine D.e rfl rfl rfl ?_; (first | refine S.gskip1 rfl ?_ | refine S.gskip rfl ?_ | refine S.y (Y.gskipU rfl) ?_); refine opsS_nil ?_; refine N.tn ?_))
          refine D.e rfl rfl rfl ?_
          refine Q.r ?_; (repeat (intro b1; refine Q.r ?_))
          repeat (first | refine D.endA ?_ | refine Q.dp rfl rfl rfl ?_ | refine Q.dy rfl rfl rfl ?_ | refine D.end_ ?_ | refine Q.endH ?_ | (refine D.e rfl rfl rfl ?_; (first | refine S.gskip1 rfl ?_ | refine S.gskip rfl ?_ | refine S.y (Y.gskipU rfl) ?_); refine opsS_nil ?_; refine N.tn ?_))
          refine D.e rfl rfl rfl ?_
          refine Q.r ?_; (repeat (intro b1; refine Q.r ?_))
          repeat (first | refine D.endA ?_ | refine Q.dp rfl rfl rfl ?_ | refine Q.dy rfl rfl rfl ?_ | refine D.end_ ?_ | refine Q.endH ?_ | (refine D.e rfl rfl rfl ?_; (first | refine S.gskip1 rfl ?_ | refine S.gskip rfl ?_ | refine S.y (Y.gskipU rfl) ?_); refine opsS_nil ?_; refine N.tn ?_))
          repeat (first | refine D.endA ?_ | refine Q.dp rfl rfl rfl ?_ | refine Q.dy rfl rfl rfl ?_ | refine D.end_ ?_ | refine Q.endH ?_ | (refine D.e rfl rfl rfl ?_; (first | refine S.gskip1 rfl ?_ | refine S.gskip rfl ?_ | refine S.y (Y.gskipU rfl) ?_); refine opsS_nil ?_; refine N.tn ?_))
          refine N.tn ⟨⟨b9, b10, ra, rc, ma, mc, ea, ec, qa, qc, qb, qd, qe, qf, M3⟩, ⟨rfl, rfl, rfl, rfl, rfl, rfl, rfl, trivial⟩, ?_, hl3⟩
          (try dsimp only); repeat (first | exact Ent.refl _ | exact Ent.nil | refine Ent.pick ?_ | refine Ent.nilS ?_ | refine Ent.nilM ?_ | refine Ent.drop ?_)
    rintro ⟨b9, b10, ra, rc, ma, mc, ea, ec, qa, qc, qb, qd, qe, qf, M3⟩ hl3
    dsimp only at hl3 ⊢
    refine swp_abs ra (fun M4 hl4 hs4 => ?_)
    refine swp_abs ma (fun M5 hl5 hs5 => ?_)
    refine swp_abs ea (fun M6 hl6 hs6 => ?_)
    refine swp_abs qa (fun M7 hl7 hs7 => ?_)
    refine swp_abs qb (fun M8 hl8 hs8 => ?_)
    refine swp_abs qe (fun M9 hl9 hs9 => ?_)
    have hl59 := hl6.trans (hl7.trans (hl8.trans hl9))
    have hl49 := hl5.trans hl59
    have hl39 := hl4.trans hl49
    refine swp_jm p hl39 ?_
    refine Q.r ?_; (repeat (intro b1; refine Q.r ?_))
    have hlr : pl.rec_.length ≤ 1 := by rcases hone with h | ⟨r, h, _⟩ <;> (rw [h]; simp)
    have hl93 : leM M2 M9 := hl3.trans hl39
    have hn19 : okN M9 n1 := hn1.mono (hl2.trans hl93)
    have hn29 : okN M9 n2 := hn2.mono hl93
    refine Q.dgo [false, false, true, true, true, true] [1, 3, 8] [] [0, 2, 1, 3, 4, 5, 6, 7, 8, 9, 10] ?_
    refine Q.rd ?_; (repeat (intro b1; refine Q.rd ?_))
    refine D.e rfl rfl rfl ?_
    refine S.cr rfl (planL_spec ra rc pl.rec_.length pl.mail.length pl.els.length (pl.rec_.map (liftN n2)) ma mc (pl.mail.map nvm) ea ec (pl.els.map nvm) _ (List.length_map ..).symm (List.length_map ..).symm (List.length_map ..).symm (rec_rdS (M := M9) (hs4.mono hl49)) (mail_rdS (M := M9) (hs5.mono hl59)) (mail_rdS (M := M9) (hs6.mono (hl7.trans (hl8.trans hl9)))) hlr hpl.1 hpl.2.1) ?_
    rintro _ _ ⟨a1, c1', a2, c2, a3, c3, rfl, rfl⟩
    refine opsS_abs a1 (fun Ma hla hsa => ?_)
    refine opsS_abs a2 (fun Mb hlb hsb => ?_)
    refine opsS_abs a3 (fun Mc hlc hsc => ?_)
    have hl9c : leM M9 Mc := hla.trans (hlb.trans hlc)
    refine opsS_jm p hl9c ?_
    have hn1c : okN Mc n1 := hn19.mono hl9c
    have hn2c : okN Mc n2 := hn29.mono hl9c
    have hrr : ∀ r ∈ pl.rec_, (liftN n2 r).abs = r ∧ (liftQ n1 r).abs = r := fun r hr => by
      rcases hone with h | ⟨r', h, _, _, hrt, hsh⟩
      · rw [h] at hr; cases hr
      · rw [h] at hr
        obtain rfl := List.mem_singleton.1 hr
        have := rec_ok he21 hua1 hrt (f := o.fr) (by rw [he1]; exact hsh)
        exact ⟨this.e1, this.e2⟩
    refine Q.r ?_; (repeat (intro b1; refine Q.r ?_))
    refine Q.rd ?_; (repeat (intro b1; refine Q.rd ?_))
    refine D.e rfl rfl rfl ?_
    refine S.cr rfl (SamePlanL_spec a1 qa c1' qc pl.rec_.length pl.mail.length pl.els.length (pl.rec_.map (liftN n2)) (pl.rec_.map (liftQ n1)) a2 qb a3 qe c2 qd c3 qf (pl.mail.map nvm) (pl.mail.map nvm) (pl.els.map nvm) (pl.els.map nvm) _
      (recs_rd (M := Mc) (g := liftN n2) (hsa.mono (hlb.trans hlc)) (fun r => ⟨hn2c.lift r, hN2.lift r⟩))
      (rec_rd (M := Mc) (g := liftQ n1) (hs7.mono (hl8.trans (hl9.trans hl9c))) (fun r => ⟨hn1c.liftQ r, hN1.liftQ r⟩))
      (mails_rd (M := Mc) (hsb.mono hlc)) (mail_rd (M := Mc) (hs8.mono (hl9.trans hl9c))) (mails_rd (M := Mc) hsc) (mail_rd (M := Mc) (hs9.mono hl9c))
      (List.length_map ..).symm (List.length_map ..).symm (List.length_map ..).symm hlr hpl.1 hpl.2.1
      (by rw [List.map_map, List.map_map]; exact List.map_congr_left fun r hr => by show (liftN n2 r).abs = (liftQ n1 r).abs; rw [(hrr r hr).1, (hrr r hr).2]) rfl rfl) ?_
    rintro _ _ ⟨rfl, rfl⟩
    refine Q.r ?_; (repeat (intro b1; refine Q.r ?_))
    refine Q.rd ?_; (repeat (intro b1; refine Q.rd ?_))
    refine D.e rfl rfl rfl ?_
    refine S.guard rfl ?_
    refine S.cr (args := [n2.val, n1.val]) rfl (Same12_spec n2 n1 _ hn2c.rd hn1c.rd hN2 hN1 he21) ?_
    rintro _ _ ⟨rfl, rfl⟩
    refine Q.r ?_; (repeat (intro b1; refine Q.r ?_))
    refine Q.rd ?_; (repeat (intro b1; refine Q.rd ?_))
    refine Q.r ?_; (repeat (intro b1; refine Q.r ?_))
    have hlMc : leM M Mc := hM2.trans (hl93.trans hl9c)
    have hs4c := hs4.mono (hl49.trans hl9c)
    have hs7c := hs7.mono (hl8.trans (hl9.trans hl9c))
    clear hs4 hs5 hs6 hs7 hs8 hs9 hsa hsb hsc
    refine swp_cutB (σ := JS × (Nat → Option Obj)) (fun _ => []) (fun s => jurH s.2 p s.1 :: rjH x s.1 :: roM s.2 :: L) (fun s => s.1 = stepS j o.fr o.n.abs.few o.w false ∧ leM M s.2) ?_ ?_
    · refine swp_loop (σ := Nat × JS × (Nat → Option Obj)) (fun s => [(0, ptrJ p), (1, .pointer (some ⟨x, 0, none⟩)), (5, .pointer (some ⟨bo, 0, none⟩)), (9, .pointer (some ⟨b9, 0, none⟩)), (10, .pointer (some ⟨b10, 0, none⟩)), (50, .int .i64 pl.rec_.length), (51, .int .i64 s.1)])
        (fun s => pt b9 (cl [.slice ra pl.rec_.length rc, .slice ma pl.mail.length mc, .slice ea pl.els.length ec] 55) :: pt b10 (cl [.slice qa pl.rec_.length qc, .slice qb pl.mail.length qd, .slice qe pl.els.length qf] 97) :: pt bo (cl ({ o with r := false } : EO).cells 38) :: jurH s.2.2 p s.2.1 :: rjH x s.2.1 :: roM s.2.2 :: L)
        (fun s => s.1 ≤ pl.rec_.length ∧ ((s.1 = 0 ∧ s.2 = (j, Mc)) ∨ (s.1 = 1 ∧ s.2.1 = stepS j o.fr o.n.abs.few o.w false ∧ leM M s.2.2))) (fun s => pl.rec_.length - s.1) (0, j, Mc) ⟨rfl, rfl, rfl, rfl, rfl, rfl, rfl, trivial⟩ (by repeat (first | exact Ent.refl _ | exact Ent.nil | refine Ent.pick ?_ | refine Ent.nilS ?_ | refine Ent.nilM ?_ | refine Ent.drop ?_)) ⟨Nat.zero_le _, .inl ⟨rfl, rfl⟩⟩ ?_
      rintro ⟨q, j2, M6⟩ ⟨hq1, hq2⟩
      dsimp only at hq1 hq2 ⊢
      by_cases hqt : q < pl.rec_.length
      · have hq0 : q = 0 := by omega
        subst hq0
        rcases hq2 with ⟨_, hq2⟩ | ⟨h, _⟩
        case inr => cases h
        cases hq2
        cases hw : o.w with
        | false =>
          refine Q.r ?_; (repeat (intro b1; refine Q.r ?_))
          refine ⟨(1, j, Mc), ⟨rfl, rfl, rfl, rfl, rfl, rfl, rfl, trivial⟩, ?_, ⟨hqt, .inr ⟨rfl, hstf.symm, hlMc⟩⟩, by dsimp only; omega⟩
          dsimp only
          repeat (first | exact Ent.refl _ | exact Ent.nil | refine Ent.pick ?_ | refine Ent.nilS ?_ | refine Ent.nilM ?_ | refine Ent.drop ?_)
        | true =>
          rcases hone with h | ⟨r, h, hE, htx, hrt, hsh⟩
          · rw [h] at hqt; cases hqt
          obtain ⟨br, or, hra, cr⟩ := SlM.cm (g := fun r => (liftN n2 r).cells) (k := 0) (x := r) (fun _ => rfl) hs4c (by rw [h]; rfl) rfl
          obtain ⟨bq, oq, hqa, cq⟩ := SlM.cm (g := fun r => (liftQ n1 r).cells) (k := 0) (x := r) (fun _ => rfl) hs7c (by rw [h]; rfl) rfl
          rw [hra, hqa]
          have hro := rec_ok he21 hua1 hrt (f := o.fr) (by rw [he1]; exact hsh)
          have hcap := capQ hoc1 hc1.ov r
          refine Q.r ?_; (repeat (intro b1; refine Q.r ?_))
          refine S.cj p rfl (Apply_spec' (liftN n2 r) Mc p j k _ hj.w (by omega) (hn2c.lift r) (hN2.lift r) (hT.mono hlMc) hro.n2) ?_
          rintro _ _ ⟨M7, rfl, hl7', rfl⟩
          rw [hro.e1, hE]
          have cq7 := cq.mono hl7'
          refine Q.r ?_; (repeat (intro b1; refine Q.r ?_))
          refine S.c2 rfl (RApp_spec (liftQ n1 r) x j k M7 _ hj (by omega) ((hn1c.liftQ r).mono hl7') (hN1.liftQ r) hcap.1 hcap.2 hro.u1) ?_
          rintro _ _ ⟨rfl, rfl⟩
          rw [hro.e2, hE]
          refine Q.r ?_; (repeat (intro b1; refine Q.r ?_))
          refine ⟨(1, appS j r, M7), ⟨rfl, rfl, rfl, rfl, rfl, rfl, rfl, trivial⟩, ?_, ⟨hqt, .inr ⟨rfl, by dsimp only; rw [hstw, h, foldl_one], hlMc.trans hl7'⟩⟩, by dsimp only; omega⟩
          dsimp only
          repeat (first | exact Ent.refl _ | exact Ent.nil | refine Ent.pick ?_ | refine Ent.nilS ?_ | refine Ent.nilM ?_ | refine Ent.drop ?_)
      · refine Q.r ?_; (repeat (intro b1; refine Q.r ?_))
        refine ⟨(j2, M6), trivial, by repeat (first | exact Ent.refl _ | exact Ent.nil | refine Ent.pick ?_ | refine Ent.nilS ?_ | refine Ent.nilM ?_ | refine Ent.drop ?_), ?_⟩
        dsimp only
        rcases hq2 with ⟨h0, hq2⟩ | ⟨_, hq2⟩
        · cases hq2
          refine ⟨?_, hlMc⟩
          have hr0 : pl.rec_ = [] := List.eq_nil_of_length_eq_zero (by omega)
          cases hw : o.w with
          | false => exact hstf.symm
          | true => rw [hstw, hr0]; rfl
        · exact hq2
    · rintro ⟨j2, M6⟩ ⟨rfl, hl6⟩
      dsimp only at hl6 ⊢
      refine Q.r ?_; (repeat (intro b1; refine Q.r ?_))
      exact N.r1 (RV.tmp rfl RV.nil) (by repeat (first | exact Ent.refl _ | exact Ent.nil | refine Ent.pick ?_ | refine Ent.nilS ?_ | refine Ent.nilM ?_ | refine Ent.drop ?_)) ⟨M6, rfl, hl6, rfl⟩
end Go.Proofs.YtjidejcehmamkaaGreatDoor
namespace Go.Proofs.YtjidejcehmamkaaGreatDoor
open Go Go.SX
attribute [local irreducible] swp opsS thenS blockS retS CallsS St Ent YieldS anyS drawS
theorem JOW.zero {dim : Int} (h1 : 1 ≤ dim) (h2 : dim ≤ 8) : JOW ⟨⟨dim, [], [], 0⟩, [], []⟩ 0 :=
  ⟨⟨⟨h1, h2, Nat.le_refl _, (fun i hi => by cases hi), Nat.le_refl _, (fun c hc => by cases hc)⟩, by simp [keysOK], by simp [keysOK]⟩, by simp [keysOK], by simp [keysOK], (fun t s h => by cases h), Int.le_refl _, (fun c hc => by cases hc), (fun i hi => by cases hi), Nat.le_refl _, Nat.le_refl _⟩
theorem there_spec (a : Option Addr) (c : Nat) (es : List IV) (t : Int) (A : List HP) (h : RdS A a es.length 3 (es.flatMap IV.cells)) (hn : es.length ≤ 1000000) :
    CallsS Tryz.prog 12 [.slice a es.length c, .int .u64 t] A (fun r L' => r = .bool (es.any fun e => decide (e.txn = t)) ∧ L' = A) := by
  refine CallsS.of_body Tryz.func12 rfl rfl rfl ?_
  refine Q.r ?_; (repeat (intro b1; refine Q.r ?_))
  refine swp_loop (σ := Nat) (fun k => [(1, .int .u64 t), (7, .slice a es.length c), (8, .int .i64 es.length), (9, .int .i64 k)]) (fun _ => A)
    (fun k => k ≤ es.length ∧ (es.take k).any (fun e => decide (e.txn = t)) = false) (fun k => es.length - k) 0 ⟨rfl, rfl, rfl, rfl, trivial⟩ (Ent.refl _) ⟨by omega, by simp⟩ ?_
  rintro k ⟨hk, hany⟩
  by_cases hlt : k < es.length
  · obtain ⟨e, he⟩ := mem_get hlt
    obtain ⟨b, o, rfl, hr⟩ := RdS.elem (g := IV.cells) (fun _ => rfl) h he rfl
    by_cases ht : e.txn = t
    · refine Q.r ?_; (repeat (intro b1; refine Q.r ?_))
      exact N.r1 (RV.tmp rfl RV.nil) (by repeat (first | exact Ent.refl _ | exact Ent.nil | refine Ent.pick ?_ | refine Ent.nilS ?_ | refine Ent.nilM ?_ | refine Ent.drop ?_)) ⟨by rw [List.any_eq_true.2 ⟨e, List.mem_of_getElem? he, decide_eq_true ht⟩], rfl⟩
    · refine Q.r ?_; (repeat (intro b1; refine Q.r ?_))
      exact ⟨k + 1, ⟨rfl, rfl, rfl, rfl, trivial⟩, by repeat (first | exact Ent.refl _ | exact Ent.nil | refine Ent.pick ?_ | refine Ent.nilS ?_ | refine Ent.nilM ?_ | refine Ent.drop ?_), ⟨by omega, by rw [take_snoc he, List.any_append, hany, List.any_cons, decide_eq_false ht]; rfl⟩, by omega⟩
  · have hke : k = es.length := by omega
    subst hke
    rw [List.take_length] at hany
    rw [hany]
    refine Q.r ?_; (repeat (intro b1; refine Q.r ?_))
    exact N.r1 (RV.tmp rfl RV.nil) (Ent.refl _) ⟨rfl, rfl⟩
theorem there_lk {es : List IV} {its : List (Int × Int × VL)} (hp : (es.map IV.abs).Perm its) (hk : keysOK its) (t : Int) : (es.any fun e => decide (e.txn = t)) = (lkL its t).isSome := by
  rw [Bool.eq_iff_iff, List.any_eq_true]
  constructor
  · rintro ⟨e, he, ht⟩
    have ht := of_decide_eq_true ht
    have : lkL its e.txn = some (e.after, e.ops.map OV.abs) := (lkL_iff hk).2 (hp.mem_iff.1 (List.mem_map_of_mem (f := IV.abs) he))
    rw [← ht, this]; rfl
  · intro h
    cases hz : lkL its t with
    | none => rw [hz] at h; cases h
    | some i =>
      obtain ⟨e, he, hx⟩ := List.mem_map.1 (hp.mem_iff.2 (lk_memL hz))
      exact ⟨e, he, decide_eq_true (congrArg Prod.fst hx)⟩
end Go.Proofs.YtjidejcehmamkaaGreatDoor
namespace Go.Proofs.YtjidejcehmamkaaGreatDoor
open Go Go.SX
attribute [local irreducible] swp opsS thenS blockS retS CallsS St Ent YieldS anyS drawS
set_option maxHeartbeats 2000000 in
theorem batch_spec (a : Option Addr) (c : Nat) (ops : List OV) (A : List HP) (h : RdO A a ops) (hc : ops.length ≤ c) (hn : ops.length ≤ 1000000) (hv : ∀ o ∈ ops, o.vec.length ≤ 1000000) :
    CallsS Tryz.prog 18 [.slice a ops.length c] A (fun r L' => r = .bool (batchV (ops.map OV.abs)) ∧ L' = A) := by
  have hE : batchV (ops.map OV.abs) = ((ops.all fun o => decide (o.vec.length = 0) || decide (o.vec.length = 2)) && decide ((ops.map (·.id)).Nodup) && decide (0 < ops.length)) := by
    unfold batchV
    rw [List.all_map, List.map_map, List.length_map]; rfl
  rw [hE]
  clear hE
  refine CallsS.of_body Tryz.func18 rfl rfl rfl ?_
  refine Q.r ?_; (repeat (intro b1; refine Q.r ?_))
  refine swp_loop (σ := Nat) (fun k => [(0, .slice a ops.length c), (7, .slice a ops.length c), (8, .int .i64 ops.length), (9, .int .i64 k)]) (fun _ => A)
    (fun k => k ≤ ops.length ∧ (ops.take k).all (fun o => decide (o.vec.length = 0) || decide (o.vec.length = 2)) = true ∧ ((ops.take k).map (·.id)).Nodup) (fun k => ops.length - k) 0 ⟨rfl, rfl, rfl, rfl, trivial⟩ (Ent.refl _) ⟨by omega, by simp, by simp⟩ ?_
  rintro k ⟨hk, hall, hnd⟩
  by_cases hlt : k < ops.length
  · obtain ⟨o, ho⟩ := mem_get hlt
    have hmo : o ∈ ops := List.mem_of_getElem? ho
    have hvo := hv o hmo
    obtain ⟨b, oo, hia, hr⟩ := RdS.elem (g := OV.cells) (fun _ => rfl) h.1 ho rfl
    have htk : (ops.take (k + 1)).map (·.id) = (ops.take k).map (·.id) ++ [o.id] := by rw [take_snoc ho, List.map_append]; rfl
    subst hia
    by_cases h0 : o.vec.length = 0 ∨ o.vec.length = 2
    · have hok : (decide (o.vec.length = 0) || decide (o.vec.length = 2)) = true := by simpa using h0
      have hrt : RdS A (some ⟨b, oo, none⟩) k 2 ((ops.take k).flatMap OV.cells) := by
        rw [← flat_take (sz := 2) (fun _ => rfl)]
        exact RdS.take h.1 (by omega)
      rcases h0 with h0 | h0
      all_goals
        refine Q.r ?_; (repeat (intro b1; refine Q.r ?_))
        refine S.y (Y.slT (h := k) rfl rfl rfl (by omega)) ?_
        refine Q.r ?_; (repeat (intro b1; refine Q.r ?_))
        refine swp_loop (σ := Nat) (fun m => [(0, .slice (some ⟨b, oo, none⟩) ops.length c), (4, .pointer (some ⟨b1, 0, none⟩)), (7, .slice (some ⟨b, oo, none⟩) ops.length c), (8, .int .i64 ops.length), (9, .int .i64 k), (26, .slice (some ⟨b, oo, none⟩) k c), (27, .int .i64 k), (28, .int .i64 m)])
          (fun _ => pt b1 (cl o.cells 46) :: A) (fun m => m ≤ k ∧ ∀ u ∈ ops.take m, u.id ≠ o.id) (fun m => k - m) 0 ⟨rfl, rfl, rfl, rfl, rfl, rfl, rfl, rfl, trivial⟩ (Ent.refl _) ⟨by omega, by simp⟩ ?_
        rintro m ⟨hm, hne⟩
        by_cases hmt : m < k
        · obtain ⟨u, hu⟩ := mem_get (l := ops) (show m < ops.length by omega)
          have hru : RdC A b (oo + m * 2) u.cells := by
            obtain ⟨b', o', hb', hr'⟩ := RdS.elem (g := OV.cells) (fun _ => rfl) h.1 hu rfl
            cases hb'
            exact hr'
          by_cases he : u.id = o.id
          · refine Q.r ?_; (repeat (intro b1; refine Q.r ?_))
            refine N.r1 (RV.tmp rfl RV.nil) (by repeat (first | exact Ent.refl _ | exact Ent.nil | refine Ent.pick ?_ | refine Ent.nilS ?_ | refine Ent.nilM ?_ | refine Ent.drop ?_)) ⟨?_, rfl⟩
            have hnn : ¬ (ops.map (·.id)).Nodup := fun hh => by
              have h5 : (ops.take (k + 1)).map (·.id) = (ops.map (·.id)).take (k + 1) := List.map_take ..
              have h6 := hh.sublist (List.take_sublist (k + 1) _)
              rw [← h5, htk, List.nodup_append] at h6
              refine h6.2.2 u.id ?_ o.id (by simp) he
              refine List.mem_map_of_mem (f := fun z : OV => z.id) ?_
              rw [List.mem_take_iff_getElem]
              have hml : m < ops.length := by omega
              exact ⟨m, by omega, (List.getElem?_eq_some_iff.1 hu).2⟩
            rw [decide_eq_false hnn, Bool.and_false, Bool.false_and]
          · refine Q.r ?_; (repeat (intro b1; refine Q.r ?_))
            refine ⟨m + 1, ⟨rfl, rfl, rfl, rfl, rfl, rfl, rfl, rfl, trivial⟩, by repeat (first | exact Ent.refl _ | exact Ent.nil | refine Ent.pick ?_ | refine Ent.nilS ?_ | refine Ent.nilM ?_ | refine Ent.drop ?_), ⟨by omega, fun v hv => ?_⟩, by omega⟩
            rw [take_snoc hu] at hv
            rcases List.mem_append.1 hv with hv | hv
            · exact hne v hv
            · rw [List.mem_singleton.1 hv]; exact he
        · have hme : m = k := by omega
          subst hme
          refine Q.r ?_; (repeat (intro b1; refine Q.r ?_))
          refine ⟨m + 1, ⟨rfl, rfl, rfl, rfl, trivial⟩, by repeat (first | exact Ent.refl _ | exact Ent.nil | refine Ent.pick ?_ | refine Ent.nilS ?_ | refine Ent.nilM ?_ | refine Ent.drop ?_), ⟨by omega, by rw [take_snoc ho, List.all_append, hall, List.all_cons, hok]; rfl, ?_⟩, by omega⟩
          rw [htk, List.nodup_append]
          refine ⟨hnd, by simp, fun y hy z hz => ?_⟩
          rw [List.mem_singleton.1 hz]
          obtain ⟨v, hv, rfl⟩ := List.mem_map.1 hy
          exact hne v hv
    · have hbad : (ops.all fun o => decide (o.vec.length = 0) || decide (o.vec.length = 2)) = false := by
        rw [List.all_eq_false]
        exact ⟨o, hmo, by simpa using h0⟩
      simp only [not_or] at h0
      refine Q.r ?_; (repeat (intro b1; refine Q.r ?_))
      exact N.r1 (RV.tmp rfl RV.nil) (by repeat (first | exact Ent.refl _ | exact Ent.nil | refine Ent.pick ?_ | refine Ent.nilS ?_ | refine Ent.nilM ?_ | refine Ent.drop ?_)) ⟨by rw [hbad]; rfl, rfl⟩
  · have hke : k = ops.length := by omega
    subst hke
    rw [List.take_length] at hall hnd
    rw [hall, decide_eq_true hnd]
    refine Q.r ?_; (repeat (intro b1; refine Q.r ?_))
    exact N.r1 (RV.tmp rfl RV.nil) (Ent.refl _) ⟨by simp, rfl⟩
set_option maxHeartbeats 8000000 in
theorem JurorVotes_spec (a : Option Addr) (c : Nat) (xs : List EO) (nn : NV) (M : Nat → Option Obj) (h : SlM M a xs.length 21 (xs.flatMap EO.cells)) (hx : ∀ o ∈ xs, EOK M o) (hn : xs.length ≤ 9223372036854775807) (hnn : okN M nn) (hnc : CapN nn) (hnu : NumN nn) (hna : NumA nn.abs) (hT : TabM M) :
    CallsS Tryz.prog 4 [.slice a xs.length c, nn.val] [roM M] (fun r _ => r = .bool true) := by
  refine CallsS.of_body Tryz.func4 rfl rfl rfl ?_
  refine Q.r ?_; (repeat (intro b1; refine Q.r ?_))
  revert b1
  intro b3
  refine S.c1 rfl (awake14_spec M _ hT) ?_
  rintro _ _ ⟨M1, rfl, hl1, rfl⟩
  refine Q.r ?_; (repeat (intro b1; refine Q.r ?_))
  refine S.cr rfl (JNew_spec M1 2 2 _ (by decide) (by decide) (by decide) (by decide)) ?_
  rintro _ _ ⟨p, rfl, rfl⟩
  refine Q.r ?_; (repeat (intro b1; refine Q.r ?_))
  refine S.cr rfl (RNew_spec 2 2 _ (by decide) (by decide)) ?_
  rintro _ _ ⟨x, rfl, rfl⟩
  refine Q.r ?_; (repeat (intro b1; refine Q.r ?_))
  refine swp_cutB (σ := JS × (Nat → Option Obj)) (fun s => [(3, .pointer (some ⟨b3, 0, none⟩)), (5, ptrJ p)]) (fun s => pt b3 (cl nn.cells 36) :: jurH s.2 p s.1 :: roM s.2 :: []) (fun s => JOW s.1 30 ∧ s.1.v.dim = 2 ∧ leM M1 s.2) ?_ ?_
  · refine swp_loop (σ := Nat × JS × (Nat → Option Obj)) (fun s => [(3, .pointer (some ⟨b3, 0, none⟩)), (5, ptrJ p), (7, .pointer (some ⟨x, 0, none⟩)), (23, .slice a xs.length c), (24, .int .i64 xs.length), (25, .int .i64 s.1)])
      (fun s => pt b3 (cl nn.cells 36) :: jurH s.2.2 p s.2.1 :: rjH x s.2.1 :: roM s.2.2 :: []) (fun s => s.1 ≤ xs.length ∧ JOW s.2.1 (min s.1 30) ∧ s.2.1.v.dim = 2 ∧ leM M1 s.2.2) (fun s => xs.length - s.1) (0, J0 2, M1) ⟨rfl, rfl, rfl, rfl, rfl, rfl, trivial⟩ (by repeat (first | exact Ent.refl _ | exact Ent.nil | refine Ent.pick ?_ | refine Ent.nilS ?_ | refine Ent.nilM ?_ | refine Ent.drop ?_)) ⟨by omega, JOW.zero (by decide) (by decide), rfl, leM.refl M1⟩ ?_
    rintro ⟨k, j, M2⟩ ⟨hk1, hj, hd, hl2⟩
    dsimp only at hk1 hj hd hl2 ⊢
    by_cases hlt : k < xs.length
    · obtain ⟨o, ho⟩ := mem_get hlt
      have hmo : o ∈ xs := List.mem_of_getElem? ho
      have hl12 := hl1.trans hl2
      obtain ⟨b, oo, hab, cr⟩ := SlM.cm (g := EO.cells) (fun _ => rfl) (h.mono hl12) ho rfl
      rw [hab]
      by_cases h30 : 30 ≤ k
      · refine Q.r ?_; (repeat (intro b1; refine Q.r ?_))
        refine ⟨(k + 1, j, M2), ⟨rfl, rfl, rfl, rfl, rfl, rfl, trivial⟩, by repeat (first | exact Ent.refl _ | exact Ent.nil | refine Ent.pick ?_ | refine Ent.nilS ?_ | refine Ent.nilM ?_ | refine Ent.drop ?_), ⟨by dsimp only; omega, hj.le (by dsimp only; omega), hd, hl2⟩, by dsimp only; omega⟩
      · have hm : min k 30 = k := by omega
        rw [hm] at hj
        refine Q.r ?_; (repeat (intro b1; refine Q.r ?_))
        have ho2 : EOK M2 o := (hx o hmo).mono hl12
        refine S.c3 (args := [ptrJ p, .pointer (some ⟨x, 0, none⟩), .agg o.cells.toArray]) rfl (step_spec o p x j k M2 _ hj (by omega) ho2 (hT.mono hl12)) ?_
        rintro _ _ ⟨M4, rfl, hl4, rfl⟩
        have hj2 : JOW (stepS j o.fr o.n.abs.few o.w o.r) (k + 1) := hj.step (n := o.n.abs.few) (hx o hmo).uu.txn.1 (hx o hmo).uu.stamp.1 o.fr o.w o.r
        have hd2 : (stepS j o.fr o.n.abs.few o.w o.r).v.dim = 2 := (step_dim hj (n := o.n.abs.few) (hx o hmo).uu.txn.1 o.fr o.w o.r).trans hd
        generalize stepS j o.fr o.n.abs.few o.w o.r = j2 at hj2 hd2 ⊢
        refine Q.r ?_; (repeat (intro b1; refine Q.r ?_))
        refine ⟨(k + 1, j2, M4), ⟨rfl, rfl, rfl, rfl, rfl, rfl, trivial⟩, by repeat (first | exact Ent.refl _ | exact Ent.nil | refine Ent.pick ?_ | refine Ent.nilS ?_ | refine Ent.nilM ?_ | refine Ent.drop ?_), ⟨by dsimp only; omega, hj2.le (by dsimp only; omega), hd2, hl2.trans hl4⟩, by dsimp only; omega⟩
    · have hke : k = xs.length := by omega
      subst hke
      refine Q.r ?_; (repeat (intro b1; refine Q.r ?_))
      exact ⟨(j, M2), ⟨rfl, rfl, trivial⟩, by repeat (first | exact Ent.refl _ | exact Ent.nil | refine Ent.pick ?_ | refine Ent.nilS ?_ | refine Ent.nilM ?_ | refine Ent.drop ?_), hj.le (by omega), hd, hl2⟩
  · rintro ⟨j, M2⟩ ⟨hj, hd, hl2⟩
    dsimp only at hj hd hl2 ⊢
    have hl12 := hl1.trans hl2
    refine Q.r ?_; (repeat (intro b1; refine Q.r ?_))
    refine S.cm (args := [nn.val]) rfl (NFew_spec nn M2 _ (hnn.mono hl12) hnc) ?_
    rintro _ _ ⟨n1, M3, rfl, hl3, hn1, hc1, hoc1, he1, rfl⟩
    have hN1 := few_OkN he1
    have hu1 := hnu.few he1
    have hua1 : NumA n1.abs := NumA.few hna he1
    refine opsS_jm p hl3 ?_
    obtain ⟨n2, hn2e⟩ : ∃ n2 : NV, n2 = { n1 with kind := 3 } := ⟨_, rfl⟩
    have hn2 : okN M3 n2 := by rw [hn2e]; exact ⟨hn1.p, hn1.o, hn1.v, hn1.h, hn1.hv⟩
    have hN2 : OkN n2 := by rw [hn2e]; exact ⟨hN1.p, hN1.o, hN1.ov, hN1.v, hN1.h, hN1.hv⟩
    have hu2 : NumN n2 := by rw [hn2e]; exact ⟨by show (0 : Int) ≤ 3 ∧ (3 : Int) ≤ 255; decide, hu1.txn, hu1.stamp, hu1.mark, hu1.after⟩
    have hua2 : NumA n2.abs := by rw [hn2e]; exact ⟨by show (0 : Int) ≤ 3 ∧ (3 : Int) ≤ 255; decide, hua1.txn, hua1.batch, hua1.stamp, hua1.after, hua1.mark, hua1.query, hua1.id, hua1.k, hua1.ef, hua1.code, hua1.who⟩
    have hoc2 : n2.ops.length ≤ n2.oc := by rw [hn2e]; exact hoc1
    have h3 : n2.abs.kind = 3 := by rw [hn2e]
    have htx : n1.txn = n2.txn := by rw [hn2e]
    have hT3 : TabM M3 := hT.mono (hl12.trans hl3)
    refine Q.r ?_; (repeat (intro b1; refine Q.r ?_))
    refine opsS_ent (L' := pt b3 (cl n2.cells 36) :: jurH M3 p j :: roM M3 :: []) (by rw [hn2e]; repeat (first | exact Ent.refl _ | exact Ent.nil | refine Ent.pick ?_ | refine Ent.nilS ?_ | refine Ent.nilM ?_ | refine Ent.drop ?_)) ?_
    rw [htx]
    refine S.cjn p rfl (JDone_spec M3 p j n2.txn _) ?_
    rintro _ _ ⟨rfl, rfl⟩
    generalize hdn : (lkL j.done n2.txn).isSome = dn
    refine Q.r ?_; (repeat (intro b1; refine Q.r ?_))
    refine S.cj p (args := [ptrJ p, .int .i64 0, n2.val]) rfl (Plan_spec n2 M3 p j 30 0 _ hj.w (by omega) hj.ne hn2 hN2 hT3 hu2.kind) ?_
    rintro _ _ ⟨ra, rc, ma, mc, ea, ec, M4, rfl, hl4, rfl⟩
    have hone := plan_one hj (n := n2.abs) hua2.txn.1 0
    have hvo := votes hj hd h3
    have hpl := plan_len (j := j) (f := 0) (n := n2.abs)
    generalize planV j 0 n2.abs = pl at hone hvo hpl ⊢
    refine opsS_abs ra (fun M5 hl5 hs5 => ?_)
    refine opsS_abs ma (fun M6 hl6 hs6 => ?_)
    refine opsS_jm p (hl5.trans hl6) ?_
    have hlr : pl.rec_.length ≤ 1 := by rcases hone with h | ⟨r, h, _⟩ <;> (rw [h]; simp)
    have hl36 := hl4.trans (hl5.trans hl6)
    refine Q.r ?_; (repeat (intro b1; refine Q.r ?_))
    revert b1
    intro b12
    refine swp_cutB (σ := JS × (Nat → Option Obj)) (fun s => [(3, .pointer (some ⟨b3, 0, none⟩)), (5, ptrJ p), (11, .bool dn), (12, .pointer (some ⟨b12, 0, none⟩))]) (fun s => pt b12 (cl [.slice ra pl.rec_.length rc, .slice ma pl.mail.length mc, .slice ea pl.els.length ec] 55) :: pt b3 (cl n2.cells 36) :: jurH s.2 p s.1 :: roM s.2 :: []) (fun s => s.1 = pl.rec_.foldl appS j ∧ JOW s.1 31 ∧ leM M6 s.2) ?_ ?_
    · refine swp_loop (σ := Nat × JS × (Nat → Option Obj)) (fun s => [(3, .pointer (some ⟨b3, 0, none⟩)), (5, ptrJ p), (11, .bool dn), (12, .pointer (some ⟨b12, 0, none⟩)), (54, .slice ra pl.rec_.length rc), (55, .int .i64 pl.rec_.length), (56, .int .i64 s.1)])
        (fun s => pt b12 (cl [.slice ra pl.rec_.length rc, .slice ma pl.mail.length mc, .slice ea pl.els.length ec] 55) :: pt b3 (cl n2.cells 36) :: jurH s.2.2 p s.2.1 :: roM s.2.2 :: [])
        (fun s => s.1 ≤ pl.rec_.length ∧ ((s.1 = 0 ∧ s.2 = (j, M6)) ∨ (s.1 = 1 ∧ s.2.1 = pl.rec_.foldl appS j ∧ JOW s.2.1 31 ∧ leM M6 s.2.2))) (fun s => pl.rec_.length - s.1) (0, j, M6) ⟨rfl, rfl, rfl, rfl, rfl, rfl, rfl, trivial⟩ (by repeat (first | exact Ent.refl _ | exact Ent.nil | refine Ent.pick ?_ | refine Ent.nilS ?_ | refine Ent.nilM ?_ | refine Ent.drop ?_)) ⟨Nat.zero_le _, .inl ⟨rfl, rfl⟩⟩ ?_
      rintro ⟨q, j2, M7⟩ ⟨hq1, hq2⟩
      dsimp only at hq1 hq2 ⊢
      by_cases hqt : q < pl.rec_.length
      · have hq0 : q = 0 := by omega
        subst hq0
        rcases hq2 with ⟨_, hq2⟩ | ⟨h, _⟩
        case inr => cases h
        cases hq2
        rcases hone with h | ⟨r, h, hE, htx2, hrt, hsh⟩
        · rw [h] at hqt; cases hqt
        obtain ⟨br, or, hra, cr⟩ := SlM.cm (g := fun r => (liftN n2 r).cells) (k := 0) (x := r) (fun _ => rfl) (hs5.mono hl6) (by rw [h]; rfl) rfl
        have hro := rec_ok (n2 := n2) (n1 := n2) rfl hua2 hrt (f := 0) hsh
        have hn26 : okN M6 n2 := hn2.mono hl36
        rw [hra]
        refine Q.r ?_; (repeat (intro b1; refine Q.r ?_))
        refine S.cj p rfl (Apply_spec' (liftN n2 r) M6 p j 30 _ hj.w (by omega) (hn26.lift r) (hN2.lift r) (hT3.mono hl36) hro.n2) ?_
        rintro _ _ ⟨M7, rfl, hl7, rfl⟩
        rw [hro.e1, hE]
        refine Q.r ?_; (repeat (intro b1; refine Q.r ?_))
        refine ⟨(1, appS j r, M7), ⟨rfl, rfl, rfl, rfl, rfl, rfl, rfl, trivial⟩, by dsimp only; repeat (first | exact Ent.refl _ | exact Ent.nil | refine Ent.pick ?_ | refine Ent.nilS ?_ | refine Ent.nilM ?_ | refine Ent.drop ?_), ⟨hqt, .inr ⟨rfl, by dsimp only; rw [h, foldl_one], ?_, hl7⟩⟩, by dsimp only; omega⟩
        refine hj.app ?_
        rcases hsh with ⟨rfl, _⟩ | rfl | rfl
        · exact hua2.stamp.1
        · exact hua2.stamp.1
        · exact Int.le_refl _
      · refine Q.r ?_; (repeat (intro b1; refine Q.r ?_))
        refine ⟨(j2, M7), ⟨rfl, rfl, rfl, rfl, trivial⟩, by repeat (first | exact Ent.refl _ | exact Ent.nil | refine Ent.pick ?_ | refine Ent.nilS ?_ | refine Ent.nilM ?_ | refine Ent.drop ?_), ?_⟩
        dsimp only
        rcases hq2 with ⟨h0, hq2⟩ | ⟨_, hq2⟩
        · cases hq2
          have hr0 : pl.rec_ = [] := List.eq_nil_of_length_eq_zero (by omega)
          exact ⟨by rw [hr0]; rfl, hj.le (by omega), leM.refl _⟩
        · exact hq2
    rintro ⟨j2, M7⟩ ⟨hj2e, hj2, hl7⟩
    dsimp only at hj2e hj2 hl7 ⊢
    have hn27 : okN M7 n2 := hn2.mono (hl36.trans hl7)
    rcases hvo with ⟨hm, hr, hb⟩ | ⟨cc, hm, hcv⟩
    · have hlen : pl.mail.length = 0 := by rw [hm]; rfl
      rw [hdn] at hb
      cases dn with
      | true =>
        refine Q.r ?_; (repeat (intro b1; refine Q.r ?_))
        exact N.r1 (RV.tmp rfl RV.nil) (by repeat (first | exact Ent.refl _ | exact Ent.nil | refine Ent.pick ?_ | refine Ent.nilS ?_ | refine Ent.nilM ?_ | refine Ent.drop ?_)) rfl
      | false =>
        refine Q.r ?_; (repeat (intro b1; refine Q.r ?_))
        refine S.cr (args := [n2.val]) rfl (Right12_spec n2 _ hn27.rd hN2 hua2) ?_
        rintro _ _ ⟨rfl, rfl⟩
        cases hrr : rightN n2.abs with
        | false =>
          refine Q.r ?_; (repeat (intro b1; refine Q.r ?_))
          exact N.r1 (RV.tmp rfl RV.nil) (by repeat (first | exact Ent.refl _ | exact Ent.nil | refine Ent.pick ?_ | refine Ent.nilS ?_ | refine Ent.nilM ?_ | refine Ent.drop ?_)) rfl
        | true =>
          refine Q.r ?_; (repeat (intro b1; refine Q.r ?_))
          refine S.cr rfl (batch_spec n2.oa n2.oc n2.ops _ hn27.rd.o hoc2 hN2.o hN2.ov) ?_
          rintro _ _ ⟨rfl, rfl⟩
          have hbf : batchV (n2.ops.map OV.abs) = false := by
            rw [hrr] at hb
            simpa using hb
          rw [hbf]
          refine Q.r ?_; (repeat (intro b1; refine Q.r ?_))
          exact N.r1 (RV.tmp rfl RV.nil) (by repeat (first | exact Ent.refl _ | exact Ent.nil | refine Ent.pick ?_ | refine Ent.nilS ?_ | refine Ent.nilM ?_ | refine Ent.drop ?_)) rfl
    · have hlen : pl.mail.length = 1 := by rw [hm]; rfl
      obtain ⟨bm, om, hma, cm⟩ := SlM.cm (g := mailC) (k := 0) (x := voteN n2.txn cc) (fun _ => rfl) (hs6.mono hl7) (by rw [hm]; rfl) rfl
      rw [hma, hlen]
      clear hs5 hs6
      have cmt := cm.tail
      refine Q.r ?_; (repeat (intro b1; refine Q.r ?_))
      refine Q.dgo [true, true, true] [29, 32] [] [0, 1, 2, 3, 4, 5, 6, 7, 8, 9, 10, 11, 12, 13, 14, 15, 16, 17, 18, 19, 20, 21, 22, 23, 24, 25, 26, 27, 28, 30, 31, 29, 32, 33, 34, 35] ?_
      refine Q.rd ?_; (repeat (intro b1; refine Q.rd ?_))
      refine Q.dT rfl rfl rfl ?_ (by simp)
      refine Q.rd ?_; (repeat (intro b1; refine Q.rd ?_))
      refine D.e rfl rfl rfl ?_
      refine S.guard rfl ?_
      refine S.cj p rfl (JIntents_spec M7 p j2 31 _ hj2.w.wf (by omega)) ?_
      rintro _ _ ⟨a3, c3, fs, M8, rfl, hl8, hsF, _, hpF, rfl⟩
      have hfl : fs.length ≤ 10000 := by
        have := hpF.length_eq
        rw [List.length_map] at this
        have h2 := hj2.w.wf.il
        omega
      refine Q.r ?_; (repeat (intro b1; refine Q.r ?_))
      refine Q.rd ?_; (repeat (intro b1; refine Q.rd ?_))
      refine D.e rfl rfl rfl ?_
      refine S.guard rfl ?_
      refine S.cr rfl (there_spec a3 c3 fs n2.txn _ hsF.rd (by omega)) ?_
      rintro _ _ ⟨rfl, rfl⟩
      have hth : (fs.any fun e => decide (e.txn = n2.txn)) = decide (cc = 0) := by
        rw [there_lk hpF hj2.w.k2, hj2e]; exact hcv.symm
      rw [hth]
      refine Q.r ?_; (repeat (intro b1; refine Q.r ?_))
      refine Q.rd ?_; (repeat (intro b1; refine Q.rd ?_))
      refine Q.r ?_; (repeat (intro b1; refine Q.r ?_))
      refine N.r1 (RV.tmp rfl RV.nil) (by repeat (first | exact Ent.refl _ | exact Ent.nil | refine Ent.pick ?_ | refine Ent.nilS ?_ | refine Ent.nilM ?_ | refine Ent.drop ?_)) ?_
      simp
end Go.Proofs.YtjidejcehmamkaaGreatDoor
namespace Go.SX
open Go Go.ChangeShapes Go.WideShapes Go.RowKit
section
variable {H : Type} {enc : TypeId × Value → H} {P : Program} {W : World}
def Rd (enc : TypeId × Value → H) (P : Program) (W : World) (t : TypeId) (cs : List Value) : Prop := ∃ n x, DataW.trod enc P W 0 (fun _ => true) true n t cs = some x
theorem cells_of {w : World} {base : Nat} {a : Addr} {n : Nat} {cs : List Value} (h : w.cells? base a n = some cs) : cs.length = n ∧ ∀ j, j < n → w.cell? (a.add j) = cs[j]? := by
  unfold World.cells? at h
  split at h
  · exact ⟨by simpa using mapM_some_length h, fun j hj => by simpa using mapM_some_get h j j (by simp [hj])⟩
  · cases h
theorem cell_block {w : World} {a : Addr} {v : Value} (h : w.cell? a = some v) : ∃ l t fz, w.heap[a.block]? = some (.cells l t fz) ∧ l[a.off]? = some v ∧ a.spot = none := by
  unfold World.cell? at h
  split at h
  · rename_i c t fz hb
    split at h
    · cases h
    · rename_i hs
      refine ⟨c, t, fz, hb, h, by simpa using hs⟩
  · cases h
theorem add_at (x y n : Nat) : (⟨x, y, none⟩ : Addr).add n = ⟨x, y + n, none⟩ := by unfold Addr.add; split <;> simp_all
theorem flat_at {sz : Nat} : ∀ {rows : List (List Value)} {j : Nat} {v : Value}, (∀ r ∈ rows, r.length = sz) → rows.flatten[j]? = some v → ∃ k r i, rows[k]? = some r ∧ r[i]? = some v ∧ j = k * sz + i
  | [], j, v, _, h => by simp at h
  | r :: rows, j, v, hr, h => by
    have h0 := hr r (by simp)
    rw [List.flatten_cons] at h
    by_cases hj : j < r.length
    · rw [List.getElem?_append_left hj] at h
      exact ⟨0, r, j, rfl, h, by simp⟩
    · rw [List.getElem?_append_right (by omega)] at h
      obtain ⟨k, r', i, h1, h2, h3⟩ := flat_at (fun x hx => hr x (by simp [hx])) h
      exact ⟨k + 1, r', i, by simpa using h1, h2, by rw [Nat.succ_mul]; omega⟩
theorem Rd.slice {t e : TypeId} {sz : Nat} {cs : List Value} (h : Rd enc P W t cs) (ht : P.underlying t = some (.slice e)) (hs : P.cellsOf e = sz) (h0 : 0 < sz) :
    ∃ (a : Option Addr) (c : Nat) (rows : List (List Value)), cs = [.slice a rows.length c] ∧ rows.length ≤ c ∧ c ≤ maxLen ∧ SlM (all0 W) a rows.length sz rows.flatten ∧ ∀ r ∈ rows, r.length = sz ∧ Rd enc P W e r := by
  obtain ⟨n, x, h⟩ := h
  rcases DataW.trod_slice ht h with ⟨rfl, _⟩ | ⟨a, len, cap, elems, rest, n, rfl, rfl, _, _, hlc, hcm, hel, hat, _⟩
  · exact ⟨none, 0, [], rfl, Nat.le_refl _, Nat.zero_le _, SlM.nil, by simp⟩
  · simp only [hs] at hat
    have hrow : ∀ i, i < len → ∃ r y, W.cells? 0 (a.add (i * sz)) sz = some r ∧ DataW.trod enc P W 0 (fun _ => true) true n e r = some y := fun i hi => by
      have := hat i hi
      have hi' : i < elems.length := by omega
      rw [List.getElem?_eq_getElem hi'] at this
      obtain ⟨r, h1, h2⟩ := Option.bind_eq_some_iff.1 this
      exact ⟨r, _, h1, h2⟩
    let rows := (List.range len).map fun i => (W.cells? 0 (a.add (i * sz)) sz).getD []
    have hrl : rows.length = len := by simp [rows]
    have hri : ∀ i r, rows[i]? = some r → i < len ∧ W.cells? 0 (a.add (i * sz)) sz = some r := fun i r hr => by
      have hi : i < len := by have := (List.getElem?_eq_some_iff.1 hr).1; omega
      obtain ⟨r', y, h1, _⟩ := hrow i hi
      refine ⟨hi, ?_⟩
      simp only [rows, List.getElem?_map, List.getElem?_range hi, Option.map_some, Option.some.injEq, h1, Option.getD_some] at hr
      rw [← hr]; exact h1
    have hmem : ∀ r ∈ rows, r.length = sz ∧ Rd enc P W e r := fun r hr => by
      obtain ⟨i, hi, rfl⟩ := List.getElem_of_mem hr
      obtain ⟨h1, h2⟩ := hri i _ (List.getElem?_eq_getElem hi)
      obtain ⟨r', y, h3, h4⟩ := hrow i h1
      rw [h2] at h3; cases h3
      exact ⟨(cells_of h2).1, n, y, h4⟩
    refine ⟨some a, cap, rows, by rw [hrl], by omega, hcm, ⟨?_, ?_⟩, hmem⟩
    · have : ∀ l : List (List Value), (∀ r ∈ l, r.length = sz) → l.flatten.length = l.length * sz := by
        intro l
        induction l with
        | nil => simp
        | cons r l ih => intro h; rw [List.flatten_cons, List.length_append, h r (by simp), ih (fun x hx => h x (by simp [hx])), List.length_cons, Nat.succ_mul]; omega
      exact this rows fun r hr => (hmem r hr).1
    · by_cases hl0 : len = 0
      · exact .inl (by omega)
      · refine .inr ?_
        obtain ⟨r0, y0, h1, _⟩ := hrow 0 (by omega)
        have h2 := (cells_of h1).2 0 h0
        have hr0 : 0 < r0.length := by rw [(cells_of h1).1]; exact h0
        rw [List.getElem?_eq_getElem hr0] at h2
        obtain ⟨l, tt, fz, hb, hc, hsp⟩ := cell_block h2
        have ea : (a.add (0 * sz)).add 0 = a := by simp [Addr.add]
        rw [ea] at hb hc hsp
        have eA : a = ⟨a.block, a.off, none⟩ := by cases a; simp_all
        refine ⟨a.block, a.off, l, tt, fz, by rw [← eA], hb, fun j v hv => ?_⟩
        obtain ⟨k, r, i, h3, h4, rfl⟩ := flat_at (fun r hr => (hmem r hr).1) hv
        obtain ⟨h5, h6⟩ := hri k r h3
        have hi : i < sz := by rw [← (cells_of h6).1]; exact (List.getElem?_eq_some_iff.1 h4).1
        have h7 := (cells_of h6).2 i hi
        rw [h4] at h7
        have e2 : (a.add (k * sz)).add i = ⟨a.block, a.off + (k * sz + i), none⟩ := by
          rw [eA, add_at, add_at, Nat.add_assoc]
        rw [e2] at h7
        simp only [World.cell?, hb] at h7
        simpa using h7
theorem Rd.list {t e : TypeId} {sz : Nat} {cs : List Value} {α : Type} {g : α → List Value} {Q : α → Prop} (he : ∀ r, Rd enc P W e r → ∃ x, r = g x ∧ Q x) (h : Rd enc P W t cs) (ht : P.underlying t = some (.slice e)) (hs : P.cellsOf e = sz) (h0 : 0 < sz) :
    ∃ (a : Option Addr) (c : Nat) (xs : List α), cs = [.slice a xs.length c] ∧ xs.length ≤ c ∧ c ≤ maxLen ∧ SlM (all0 W) a xs.length sz (xs.flatMap g) ∧ ∀ x ∈ xs, Q x := by
  obtain ⟨a, c, rows, h1, h2, h3, h4, h5⟩ := h.slice ht hs h0
  have key : ∀ rows : List (List Value), (∀ r ∈ rows, r.length = sz ∧ Rd enc P W e r) → ∃ xs : List α, rows = xs.map g ∧ ∀ x ∈ xs, Q x := by
    intro rows
    induction rows with
    | nil => exact fun _ => ⟨[], rfl, by simp⟩
    | cons r rows ih =>
      intro h
      obtain ⟨xs, e1, e2⟩ := ih fun x hx => h x (by simp [hx])
      obtain ⟨x, e3, e4⟩ := he r (h r (by simp)).2
      refine ⟨x :: xs, by rw [List.map_cons, ← e1, ← e3], fun y hy => ?_⟩
      rcases List.mem_cons.1 hy with rfl | hy
      · exact e4
      · exact e2 y hy
  obtain ⟨xs, e1, e2⟩ := key rows h5
  have el : rows.length = xs.length := by rw [e1, List.length_map]
  rw [el] at h1 h2 h4
  refine ⟨a, c, xs, h1, h2, h3, ?_, e2⟩
  rw [List.flatMap_def, ← e1]; exact h4
theorem Rd.int {t : TypeId} {k : IntKind} {cs : List Value} (h : Rd enc P W t cs) (ht : P.underlying t = some (.int k)) : ∃ n, cs = [.int k n] ∧ (Lit.int k n).wf = true := by
  obtain ⟨n, x, h⟩ := h
  obtain ⟨v, h1, _, h2⟩ := DataW.trod_int ht h
  exact ⟨v, h1, h2⟩
theorem Rd.bool {t : TypeId} {cs : List Value} (h : Rd enc P W t cs) (ht : P.underlying t = some .bool) : ∃ b, cs = [.bool b] := by
  obtain ⟨n, x, h⟩ := h
  obtain ⟨v, h1, _⟩ := DataW.trod_bool ht h
  exact ⟨v, h1⟩
theorem Rd.fields {t : TypeId} {fs : Array Field} {cs : List Value} (h : Rd enc P W t cs) (ht : P.underlying t = some (.struct fs)) : cs.length = P.cellsOf t ∧ ∀ (i : Nat) (f : Field), fs[i]? = some f → Rd enc P W f.type ((cs.drop f.offset).take (P.cellsOf f.type)) := by
  obtain ⟨n, x, h⟩ := h
  obtain ⟨xs, m, _, _, h1, h2, h3⟩ := DataW.trod_struct ht h
  refine ⟨h1, fun i f hf => ?_⟩
  have := h3 i f hf
  have hi : i < xs.length := by rw [h2]; exact (Array.getElem?_eq_some_iff.1 hf).1
  rw [List.getElem?_eq_getElem hi] at this
  exact ⟨m, _, this⟩
theorem Rd.byte {t : TypeId} {cs : List Value} (h : Rd enc P W t cs) (ht : P.underlying t = some (.int .u8)) : ∃ x, cs = [B x] ∧ True := by
  obtain ⟨n, rfl, h1⟩ := h.int ht
  have h2 : 0 ≤ n ∧ n ≤ 255 := bounds_u8 h1
  refine ⟨UInt8.ofNat n.toNat, ?_, trivial⟩
  have : (UInt8.ofNat n.toNat).toNat = n.toNat := by simp; omega
  simp only [B, this]
  rw [Int.toNat_of_nonneg h2.1]
theorem Rd.bytes {t e : TypeId} {cs : List Value} (h : Rd enc P W t cs) (ht : P.underlying t = some (.slice e)) (he : P.underlying e = some (.int .u8)) (hs : P.cellsOf e = 1) :
    ∃ (a : Option Addr) (c : Nat) (bs : List UInt8), cs = [.slice a bs.length c] ∧ bs.length ≤ c ∧ c ≤ maxLen ∧ SlM (all0 W) a bs.length 1 (bs.map B) := by
  obtain ⟨a, c, xs, h1, h2, h3, h4, _⟩ := Rd.list (g := fun x => [B x]) (fun r hr => hr.byte he) h ht hs (by omega)
  refine ⟨a, c, xs, h1, h2, h3, ?_⟩
  have key : ∀ xs : List UInt8, xs.flatMap (fun x => [B x]) = xs.map B := fun xs => by induction xs with
    | nil => rfl
    | cons x xs ih => rw [List.flatMap_cons, ih]; rfl
  rwa [key] at h4
theorem args_again (K : Kids P (· < P.types.size)) (hz : ∀ t e, t < P.types.size → P.underlying t = some (.slice e) → 0 < P.cellsOf e) {W' : World} {ts : List TypeId} {vs : List Value} {ds : List (DataW H)} {ps : List MemPlace} (hT : ∀ t ∈ ts, t < P.types.size)
    (h : DataW.TrodAll enc P W 0 (fun _ => true) true ts vs ds ps) (hk : Kept W W') (sp : Nat → Bool) (hs : ∀ p ∈ ps, sp p.block = true) : DataW.TrodAll enc P W' 0 sp true ts vs ds ps :=
  DataW.TrodAll.respare K hz hT (trodAll_kept hk h) hs
theorem trodAll_rd : ∀ {ts : List TypeId} {vs : List Value} {ds : List (DataW H)} {ps : List MemPlace}, DataW.TrodAll enc P W 0 (fun _ => true) true ts vs ds ps → vs.length = ts.length ∧ ds.length = ts.length ∧ ∀ (i : Nat) (t : TypeId) (v : Value), ts[i]? = some t → vs[i]? = some v → Rd enc P W t v.cells.toList
  | [], [], [], _, _ => ⟨rfl, rfl, fun i t v h => by simp at h⟩
  | t :: ts, v :: vs, d :: ds, ps, ⟨p, q, ⟨n, h1⟩, h2, _⟩ => by
    obtain ⟨e1, e2, e3⟩ := trodAll_rd h2
    refine ⟨by simp [e1], by simp [e2], fun i t' v' h h' => ?_⟩
    cases i with
    | zero => simp at h h'; subst h h'; exact ⟨n, _, h1⟩
    | succ i => exact e3 i t' v' (by simpa using h) (by simpa using h')
structure Arg (enc : TypeId × Value → H) (P : Program) (W : World) (t : TypeId) (v : Value) : Prop where
  rd : Rd enc P W t v.cells.toList
  ok : ∃ base, Value.okWide P W .any base t v
theorem Arg.int {t : TypeId} {k : IntKind} {v : Value} (h : Arg enc P W t v) (ht : P.underlying t = some (.int k)) : ∃ n, v = .int k n ∧ (Lit.int k n).wf = true := by
  obtain ⟨r, _, o⟩ := h
  obtain ⟨n, rfl⟩ := okWide_int ht o
  obtain ⟨m, h1, h2⟩ := r.int ht
  simp [Value.cells] at h1
  subst h1
  exact ⟨n, rfl, h2⟩
theorem Arg.bool {t : TypeId} {v : Value} (h : Arg enc P W t v) (ht : P.underlying t = some .bool) : ∃ b, v = .bool b := by
  obtain ⟨r, _, o⟩ := h
  exact okWide_bool ht o
theorem Arg.list {t e : TypeId} {sz : Nat} {v : Value} {α : Type} {g : α → List Value} {Q : α → Prop} (h : Arg enc P W t v) (he : ∀ r, Rd enc P W e r → ∃ x, r = g x ∧ Q x) (ht : P.underlying t = some (.slice e)) (hs : P.cellsOf e = sz) (h0 : 0 < sz) :
    ∃ (a : Option Addr) (c : Nat) (xs : List α), v = .slice a xs.length c ∧ xs.length ≤ c ∧ c ≤ 9223372036854775807 ∧ SlM (all0 W) a xs.length sz (xs.flatMap g) ∧ ∀ x ∈ xs, Q x := by
  obtain ⟨r, _, o⟩ := h
  obtain ⟨a, l, c, rfl⟩ := okWide_slice ht o
  obtain ⟨a', c', xs, h1, h2, h3, h4, h5⟩ := r.list he ht hs h0
  simp [Value.cells] at h1
  obtain ⟨rfl, rfl, rfl⟩ := h1
  exact ⟨_, _, xs, rfl, h2, h3, h4, h5⟩
theorem Arg.bytes {t e : TypeId} {v : Value} (h : Arg enc P W t v) (ht : P.underlying t = some (.slice e)) (he : P.underlying e = some (.int .u8)) (hs : P.cellsOf e = 1) :
    ∃ (a : Option Addr) (c : Nat) (bs : List UInt8), v = .slice a bs.length c ∧ bs.length ≤ c ∧ c ≤ 9223372036854775807 ∧ SlM (all0 W) a bs.length 1 (bs.map B) := by
  obtain ⟨r, _, o⟩ := h
  obtain ⟨a, l, c, rfl⟩ := okWide_slice ht o
  obtain ⟨a', c', xs, h1, h2, h3, h4⟩ := r.bytes ht he hs
  simp [Value.cells] at h1
  obtain ⟨rfl, rfl, rfl⟩ := h1
  exact ⟨_, _, xs, rfl, h2, h3, h4⟩
theorem row_post {f : FuncId} {F : Func} {s : ChangeSpec} {tb : TypeId} {args : Array Value} {ds gs : List (DataW H)} {before : List MemPlace} {handsOn again : Bool} (K : Kids P (· < P.types.size)) (hz : ∀ t e, t < P.types.size → P.underlying t = some (.slice e) → 0 < P.cellsOf e)
    (hT : (F.params.toList.all fun t => decide (t < P.types.size)) = true) (hvs : s.vars = []) (hfn : ∀ ds : List (DataW H), ds.length = F.params.toList.length → s.fn H ds = { results := [.lit (.bool true)], args := ds }) (hrt : F.resultTypes = #[tb]) (htb : P.underlying tb = some .bool)
    {base : Nat} (hval : ∀ (j : Nat) t v, F.params[j]? = some t → args[j]? = some v → Value.okWide P W .any base t v)
    (hW : DataW.Whole enc P F.params.toList s.vars false W args.toList ds gs before)
    (hw : (∀ (i : Nat) (t : TypeId) (v : Value), F.params.toList[i]? = some t → args.toList[i]? = some v → Arg enc P W t v) → args.toList.length = F.params.toList.length → CallsS P f args.toList [roM (all0 W)] (fun v _ => v = .bool true)) :
    Calls P f args W fun e W' => ∃ v, e = .returned v ∧ s.post enc P F false true handsOn again W args v W' := by
  have hW' := hW
  obtain ⟨p, q, hA, hV, rfl, hfz, hnd⟩ := hW
  rw [hvs] at hV
  obtain ⟨rfl, rfl⟩ : gs = [] ∧ q = [] := by
    cases gs with
    | nil => exact ⟨rfl, hV⟩
    | cons g gs => exact hV.elim
  obtain ⟨h1, h2, h3⟩ := trodAll_rd hA
  have hc := (hw (fun i t v e1 e2 => ⟨h3 i t v e1 e2, base, hval i t v (by simpa using e1) (by simpa using e2)⟩) h1).kept
  refine hc.mono fun e W' ⟨he, hk⟩ => ?_
  subst he
  have hf := hfn ds h2
  refine ⟨_, rfl, post_kept (pa := p) (pv := []) hW' (fun b sp hd => ?_) (fun sp hsp => ?_) (fun sp _ => ?_) rfl hk ?_⟩
  · rw [hrt, List.append_nil, hf]
    exact trodAll_cons_mk (shut_bool htb _) trodAll_mk0
  · rw [List.append_nil, hf]
    exact args_again K hz (fun t ht => of_decide_eq_true (List.all_eq_true.1 hT t ht)) hA hk sp (fun x hx => hsp x (by simp [hx]))
  · rw [hvs, List.append_nil, hf]; rfl
  · exact ok_one hrt rfl (okWide_bool_mk htb _)
end
end Go.SX
namespace Go.Proofs.YtjidejcehmamkaaGreatDoor
open Go Go.SX Go.ChangeShapes Go.WideShapes Go.ChangeAt Go.RowKit
theorem own : ownKnob Tryz.prog.godebug = none := by kernel_rfl
theorem Rd.i32 {H : Type} {enc : TypeId × Value → H} {W : World} {cs : List Value} (h : Rd enc Tryz.prog W 21 cs) : ∃ z, cs = cI z ∧ True := by
  obtain ⟨z, hz, _⟩ := Rd.int h Tryz.underlying21
  exact ⟨z, hz, trivial⟩
theorem u64_wf {n : Int} (h : (Lit.int .u64 n).wf = true) : 0 ≤ n ∧ n ≤ 18446744073709551615 := by
  have := (Lit.wf_int_iff .u64 n).1 h
  have e1 : IntKind.u64.min = 0 := by decide
  have e2 : IntKind.u64.max = 18446744073709551615 := by decide
  rw [e1, e2] at this; exact this
theorem Rd.u64 {H : Type} {enc : TypeId × Value → H} {W : World} {cs : List Value} (h : Rd enc Tryz.prog W 30 cs) : ∃ z, cs = cU z ∧ (0 ≤ z ∧ z ≤ 18446744073709551615) := by
  obtain ⟨z, hz, hw⟩ := Rd.int h Tryz.underlying30
  exact ⟨z, hz, u64_wf hw⟩
theorem Rd.vec {H : Type} {enc : TypeId × Value → H} {W : World} {cs : List Value} (h : Rd enc Tryz.prog W 33 cs) : ∃ (a : Option Addr) (c : Nat) (xs : List Int), cs = [.slice a xs.length c] ∧ xs.length ≤ c ∧ xs.length ≤ 9223372036854775807 ∧ SlM (all0 W) a xs.length 1 (xs.map I32) := by
  obtain ⟨a, c, ls, h1, h1c, h1m, h1s, h1q⟩ := Rd.list (fun r hr => Rd.i32 hr) h (sz := 1) Tryz.underlying33 (by kernel_rfl) (by decide)
  have hmx : maxLen = 9223372036854775807 := by decide
  rw [hmx] at h1m
  have hmm : ls.length ≤ 9223372036854775807 := Nat.le_trans h1c h1m
  rw [flat_I] at h1s
  exact ⟨a, c, ls, h1, h1c, hmm, h1s⟩
set_option maxRecDepth 100000 in
theorem Rd.op {H : Type} {enc : TypeId × Value → H} {W : World} {cs : List Value} (h : Rd enc Tryz.prog W 46 cs) : ∃ o : OV, cs = o.cells ∧ (SlM (all0 W) o.a o.vec.length 1 (o.vec.map I32) ∧ o.vec.length ≤ o.c ∧ o.vec.length ≤ 9223372036854775807 ∧ 0 ≤ o.id ∧ o.id ≤ 18446744073709551615) := by
  obtain ⟨hl, hf⟩ := h.fields Tryz.underlying46
  obtain ⟨x, h0, hx⟩ := Rd.u64 (hf 0 _ rfl)
  obtain ⟨a, c, xs, h1, h2, h3, h4⟩ := Rd.vec (hf 1 _ rfl)
  have hl' : cs.length = 2 := hl.trans (by kernel_rfl)
  match cs, hl' with
  | [u, v], _ =>
    have h0' : [u] = [Value.int .u64 x] := h0
    have h1' : [v] = [Value.slice a xs.length c] := h1
    simp only [List.cons.injEq, and_true] at h0' h1'
    subst h0' h1'
    exact ⟨⟨x, a, c, xs⟩, rfl, h4, h2, h3, hx⟩
end Go.Proofs.YtjidejcehmamkaaGreatDoor
namespace Go.Proofs.YtjidejcehmamkaaGreatDoor
open Go Go.SX Go.ChangeShapes Go.WideShapes Go.ChangeAt Go.RowKit
def QOps (W : World) (a : Option Addr) (ops : List OV) : Prop := (SlM (all0 W) a ops.length 2 (ops.flatMap OV.cells) ∧ okR (all0 W) ops) ∧ (∀ u ∈ ops, u.vec.length ≤ u.c) ∧ ops.length ≤ 9223372036854775807
theorem Rd.u8 {H : Type} {enc : TypeId × Value → H} {W : World} {cs : List Value} (h : Rd enc Tryz.prog W 5 cs) : ∃ z, cs = [Value.int .u8 z] := by
  obtain ⟨z, hz, _⟩ := Rd.int h Tryz.underlying5
  exact ⟨z, hz⟩
theorem Rd.ops {H : Type} {enc : TypeId × Value → H} {W : World} {cs : List Value} (h : Rd enc Tryz.prog W 32 cs) : ∃ (a : Option Addr) (c : Nat) (ops : List OV), cs = [.slice a ops.length c] ∧ QOps W a ops := by
  obtain ⟨a, c, ls, h1, h1c, h1m, h1s, h1q⟩ := Rd.list (fun r hr => Rd.op hr) h (sz := 2) Tryz.underlying32 (by kernel_rfl) (by decide)
  have hmx : maxLen = 9223372036854775807 := by decide
  rw [hmx] at h1m
  exact ⟨a, c, ls, h1, ⟨h1s, fun u hu => (h1q u hu).1⟩, fun u hu => (h1q u hu).2.1, Nat.le_trans h1c h1m⟩
end Go.Proofs.YtjidejcehmamkaaGreatDoor
