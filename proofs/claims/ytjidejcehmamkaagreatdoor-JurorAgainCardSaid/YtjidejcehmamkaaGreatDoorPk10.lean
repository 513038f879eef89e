/- The ref's juror: Do. The ref's juror: Apply. Plans as the document has them; lists of notes, alike. JurorOnce: the walk. No condition. -/
import Derived.Test.YtjidejcehmamkaaGreatDoorPk09
set_option linter.unusedVariables false
set_option linter.unusedSimpArgs false
set_option linter.unusedSectionVars false
namespace Go.Proofs.YtjidejcehmamkaaGreatDoor
open Go Go.SX
attribute [local irreducible] swp opsS thenS blockS retS CallsS St Ent YieldS anyS drawS
abbrev qR : HP := slO 36 16 none 0 0 []
abbrev qM : HP := slO 135 17 none 0 0 []
def liftQ (n : NV) (r : NA) : NV := if r.kind = 12 then ⟨12, n.txn, 0, 0, n.after, 0, 0, 0, 0, 0, 0, 0, n.pa, n.pc, n.parts, n.oa, n.oc, n.ops, none, 0, [], none, 0, []⟩ else r.nv
def planQ (n : NV) (p : Nat) (j : JS) (pl : PA) (L : List HP) (r : Value) (L' : List HP) : Prop := ∃ (ra : Option Addr) (rc : Nat) (ma : Option Addr) (mc : Nat) (ea : Option Addr) (ec : Nat),
  r = .agg #[.slice ra pl.rec_.length rc, .slice ma pl.mail.length mc, .slice ea pl.els.length ec] ∧
  L' = slO 36 16 ra pl.rec_.length rc (pl.rec_.flatMap fun r => (liftQ n r).cells) :: slO 135 17 ma pl.mail.length mc (pl.mail.flatMap mailC) :: slO 135 17 ea pl.els.length ec (pl.els.flatMap mailC) :: rjH p j :: L
theorem Rvote_spec (t c : Int) (L : List HP) :
    CallsS Tryz.prog 100 [.int .u64 t, .int .i64 c] L (fun r L' => r = .agg (mailC (voteN t c)).toArray ∧ L' = L) := by
  refine CallsS.of_body Tryz.func100 rfl rfl rfl ?_
  refine Q.r ?_; (repeat (intro b1; refine Q.r ?_))
  exact N.r1 (by apply RV.cellN; rfl; exact RdC.row; rfl; exact RV.nil) (Ent.drop (Ent.refl _)) ⟨rfl, rfl⟩
theorem taken_ref {is : List IV} {st : VS} (hp : (is.map IV.abs).Perm st.its) (ops : List OV) : takenV st (ops.map OV.abs) = is.any fun i => ops.any fun o => holdsV (i.ops.map OV.abs) o.id := by
  unfold takenV
  rw [← hp.any_eq, List.any_map]
  congr 1; funext i
  rw [Bool.eq_iff_iff]
  simp only [Function.comp, List.any_eq_true, List.any_map, holdsV, decide_eq_true_eq]
  constructor
  · rintro ⟨x, hx, o, ho, h⟩; exact ⟨o, ho, x, hx, h.symm⟩
  · rintro ⟨o, ho, x, hx, h⟩; exact ⟨x, hx, o, ho, h.symm⟩
theorem rjc {p v : Nat} {sf : Int} {M Mv : Nat → Option Obj} {j : JS} {pa : Option Addr} {pc : Nat} {ps : List QV} {da : Option Addr} {dc : Nat} {ds : List (Int × Int)} {a a' : Option Addr} {c c' : Nat} {es : List EV} {is : List IV} {L L0 L1 L2 L3 : List HP} [h1 : Pick (rjP p sf v pa ps pc da ds dc) L L0] [h2 : Pick (rP v j.v.dim a es c a' is c' j.v.mark) L0 L1] [h3 : Pick (roM Mv) L1 L2] [h4 : Pick (roM M) L2 L3]
    (hq : RJOK M j sf pa pc ps da dc ds) (hok : ROK Mv j.v a c es a' c' is) : Ent L (rjH p j :: L3) := by
  refine Ent.trans (h1.ent.trans (Ent.cons (h2.ent.trans (Ent.cons (h3.ent.trans (Ent.cons h4.ent)))))) ?_
  refine Ent.trans (Ent.cons (ref_shut (L := roM M :: L3) hok)) ?_
  exact rj_shut hq
theorem above_ref {st : VS} {n : Nat} (hw : WFK st n) (hne : ∀ c ∈ st.ch, 0 < c.2.length) (s : Int) (ops : VL) : aboveV st s ops = !ops.any fun o => (chV st.ch o.1).any fun v => decide (s ≤ v.1) := by
  unfold aboveV
  congr 1
  rw [Bool.eq_iff_iff]
  simp only [List.any_eq_true, Bool.and_eq_true, decide_eq_true_eq, holdsV]
  constructor
  · rintro ⟨c, hc, hs, o, ho, hoc⟩
    have hlk : lkL st.ch c.1 = some c.2 := (lkL_iff hw.k1).2 hc
    have h1 := hne c hc
    refine ⟨o, ho, ?_⟩
    unfold chV
    rw [hoc, hlk, Option.getD_some]
    refine ⟨c.2[c.2.length - 1], List.getElem_mem _, ?_⟩
    unfold lastS at hs
    rw [List.getLast?_eq_getElem?, List.getElem?_eq_getElem (by omega)] at hs
    exact hs
  · rintro ⟨o, ho, v, hv, hs⟩
    unfold chV at hv
    cases hz : lkL st.ch o.1 with
    | none => rw [hz] at hv; cases hv
    | some w =>
      rw [hz, Option.getD_some] at hv
      have hm := lk_memL hz
      have hl := sorted_last (hw.wf.co _ hm).1 v hv
      exact ⟨_, hm, Int.le_trans hs hl, o, ho, rfl⟩
set_option maxHeartbeats 8000000 in
theorem RDo_spec (n : NV) (p : Nat) (j : JS) (k : Nat) (fr : Int) (M0 : Nat → Option Obj) (L : List HP) (hj : JOW j k) (hk : k ≤ 10000) (hn : okN M0 n) (hN : OkN n) (hoc : n.ops.length ≤ n.oc) (u : NumA n.abs) :
    CallsS Tryz.prog 33 [.pointer (some ⟨p, 0, none⟩), .int .i64 fr, n.val] (rjH p j :: roM M0 :: L) (planQ n p j (planV j fr n.abs) (roM M0 :: L)) := by
  have hdl : j.done.length ≤ 10000 := Nat.le_trans hj.dl hk
  have hil : j.v.its.length ≤ 10000 := Nat.le_trans hj.w.wf.il hk
  have hcl : j.v.ch.length ≤ 160000 := by have := hj.w.wf.cl; omega
  have hd1 := hj.w.wf.d1
  have hd2 := hj.w.wf.d2
  have hno1 := hN.o
  unfold planV
  refine CallsS.of_body Tryz.func33 rfl rfl rfl ?_
  refine Q.r ?_; (repeat (intro b1; refine Q.r ?_))
  rename_i b0
  revert b1
  intro bp
  refine S.cr rfl (Right12_spec n _ hn.rd hN u) ?_
  rintro _ _ ⟨rfl, rfl⟩
  cases hr : rightN n.abs with
  | false =>
    rw [if_pos rfl]
    refine Q.r ?_; (repeat (intro b1; refine Q.r ?_))
    refine N.r1 (by apply RV.cellN; rfl; exact RdC.row; rfl; exact RV.nil) ?_ ⟨none, 0, none, 0, none, 0, rfl, rfl⟩
    show Ent _ (qR :: qM :: qM :: rjH p j :: roM M0 :: L)
    exact Go.SX.Ent.go
  | true =>
  rw [if_neg (by decide)]
  refine Q.r ?_; (repeat (intro b1; refine Q.r ?_))
  refine swp_rj p (fun v sf M pa pc ps da dc ds hq => ?_)
  refine swp_ref v (fun Mv a c es a' c' is hok => ?_)
  have hdl2 : ds.length ≤ 10000 := by rw [hq.dp.length_eq]; exact hdl
  have hil2 : is.length ≤ 10000 := by rw [hok.len.1]; exact hil
  have hel2 : es.length ≤ 160000 := by rw [hok.len.2]; exact hcl
  have hopl : ∀ i ∈ is, i.ops.length ≤ 16 := fun i hi => by
    have := (hj.w.wf.io i.abs (hok.its.mem_iff.1 (List.mem_map_of_mem (f := IV.abs) hi))).1
    simpa using this
  refine Q.dgo [false, false, true, false, true, true] [6] [] [0, 1, 2, 3, 4, 5, 6, 7] ?_
  refine Q.rd ?_; (repeat (intro b1; refine Q.rd ?_))
  refine D.e rfl rfl rfl ?_
  refine S.cr rfl (Find_spec v j.v.dim a es c a' is c' j.v.mark n.txn Mv _ hok.sI (by omega)) ?_
  rintro w _ ⟨hv, rfl⟩
  obtain ⟨z, rfl, hz⟩ : ∃ z, w = .int .i64 z ∧ ((∃ (ki : Nat) (i : IV), z = (ki : Int) ∧ is[ki]? = some i ∧ i.txn = n.txn ∧ lkL j.v.its n.txn = some (i.after, i.ops.map OV.abs)) ∨ (z = -1 ∧ lkL j.v.its n.txn = none)) := by
    rcases hv with ⟨ki, i, rfl, hi, hit⟩ | ⟨rfl, hno⟩
    · exact ⟨_, rfl, .inl ⟨ki, i, rfl, hi, hit, by rw [← hit]; exact hok.hasT hi⟩⟩
    · exact ⟨_, rfl, .inr ⟨rfl, hok.noT hno⟩⟩
  clear hv
  refine Q.r ?_; (repeat (intro b1; refine Q.r ?_))
  refine Q.rd ?_; (repeat (intro b1; refine Q.rd ?_))
  refine Q.r ?_; (repeat (intro b1; refine Q.r ?_))
  refine S.c2 rfl (FindD_spec p v sf pa ps pc da ds dc n.txn M _ hq.dS (by omega)) ?_
  rintro _ _ ⟨rfl, rfl⟩
  rw [hq.lk]
  by_cases h3 : n.kind = 3
  · rw [if_pos h3]
    by_cases hf : fr = 0
    · rw [if_pos hf]
      unfold prepV
      cases hd : lkL j.done n.txn with
      | some s =>
        have hs := hj.p _ _ hd
        rw [if_pos (.inl rfl)]
        dsimp only [Option.getD_some]
        refine Q.r ?_; (repeat (intro b1; refine Q.r ?_))
        refine Q.dgo [true, false, true, true, true] [12] [] [0, 1, 2, 3, 4, 5, 6, 7, 8, 9, 10, 11, 12, 13, 14] ?_
        refine Q.rd ?_; (repeat (intro b1; refine Q.rd ?_))
        refine Q.r ?_; (repeat (intro b1; refine Q.r ?_))
        refine N.r1 (by apply RV.cellN; rfl; exact RdC.row; rfl; exact RV.nil) ?_ ⟨none, 0, none, 0, none, 0, rfl, rfl⟩; show Ent _ (qR :: qM :: qM :: rjH p j :: roM M0 :: L); refine Ent.trans (rjc (p := p) (v := v) (sf := sf) (pa := pa) (pc := pc) (ps := ps) (da := da) (dc := dc) (ds := ds) (a := a) (a' := a') (c := c) (c' := c') (es := es) (is := is) hq hok) ?_; exact Go.SX.Ent.go
      | none =>
        dsimp only [Option.getD_none]
        refine Q.r ?_; (repeat (intro b1; refine Q.r ?_))
        refine Q.dgo [true, false, true, true, true] [12] [] [0, 1, 2, 3, 4, 5, 6, 7, 8, 9, 10, 11, 12, 13, 14] ?_
        refine Q.rd ?_; (repeat (intro b1; refine Q.rd ?_))
        refine D.e rfl rfl rfl ?_
        refine S.guard rfl ?_
        refine S.cr rfl (RCheck_spec j.v.dim n.oa n.oc n.ops _ hn.rd.o hoc hN.o hN.ov (by omega)) ?_
        rintro _ _ ⟨rfl, rfl⟩
        by_cases hc : checkV j.v.dim (n.ops.map OV.abs) ≠ 0
        · rw [if_pos (.inr hc)]
          refine Q.r ?_; (repeat (intro b1; refine Q.r ?_))
          refine Q.rd ?_; (repeat (intro b1; refine Q.rd ?_))
          refine Q.r ?_; (repeat (intro b1; refine Q.r ?_))
          refine N.r1 (by apply RV.cellN; rfl; exact RdC.row; rfl; exact RV.nil) ?_ ⟨none, 0, none, 0, none, 0, rfl, rfl⟩; show Ent _ (qR :: qM :: qM :: rjH p j :: roM M0 :: L); refine Ent.trans (rjc (p := p) (v := v) (sf := sf) (pa := pa) (pc := pc) (ps := ps) (da := da) (dc := dc) (ds := ds) (a := a) (a' := a') (c := c) (c' := c') (es := es) (is := is) hq hok) ?_; exact Go.SX.Ent.go
        rw [if_neg (by rintro (h | h); cases h; exact hc h)]
        have hc := Decidable.not_not.1 hc
        rcases hz with ⟨ki, i, rfl, hi, hit, hlk⟩ | ⟨rfl, hlk⟩
        · have hsm : (lkL j.v.its n.txn).isSome = true := by rw [hlk]; rfl
          rw [if_pos hsm]
          refine Q.r ?_; (repeat (intro b1; refine Q.r ?_))
          refine Q.rd ?_; (repeat (intro b1; refine Q.rd ?_))
          refine Q.r ?_; (repeat (intro b1; refine Q.r ?_))
          refine S.cr rfl (Rvote_spec n.txn 0 _) ?_
          rintro _ _ ⟨rfl, rfl⟩
          refine Q.r ?_; (repeat (intro b1; refine Q.r ?_))
          refine N.r1 (by apply RV.cellN; rfl; exact RdC.row; rfl; exact RV.nil) ?_ ⟨none, 0, some ⟨b1, 0, none⟩, 1, none, 0, rfl, rfl⟩; show Ent _ (qR :: slO 135 17 (some ⟨b1, 0, none⟩) 1 1 (mailC (voteN n.txn 0)) :: qM :: rjH p j :: roM M0 :: L); refine Ent.nilS ?_; refine Ent.trans ?_ (slO_fold rfl); refine Ent.trans (rjc (p := p) (v := v) (sf := sf) (pa := pa) (pc := pc) (ps := ps) (da := da) (dc := dc) (ds := ds) (a := a) (a' := a') (c := c) (c' := c') (es := es) (is := is) hq hok) ?_; exact Go.SX.Ent.go
        · have hsm : ¬ (lkL j.v.its n.txn).isSome = true := by rw [hlk]; decide
          rw [if_neg hsm]
          refine Q.r ?_; (repeat (intro b1; refine Q.r ?_))
          refine Q.rd ?_; (repeat (intro b1; refine Q.rd ?_))
          refine Q.r ?_; (repeat (intro b1; refine Q.r ?_))
          have ht0 := taken_ref hok.its n.ops
          have hrf : RdS (roM M0 :: []) n.oa n.ops.length 2 (n.ops.flatMap OV.cells) := hn.rd.o.1
          clear hrf
          refine swp_cutB (σ := Unit) (fun _ => [(5, .pointer (some ⟨b0, 0, none⟩)), (6, .pointer (some ⟨bp, 0, none⟩))]) (fun _ => pt bp (cl [.slice none 0 0, .slice none 0 0, .slice none 0 0] 97) :: pt b0 (cl n.cells 36) :: rjP p sf v pa ps pc da ds dc :: rP v j.v.dim a es c a' is c' j.v.mark :: roM Mv :: roM M :: roM M0 :: L) (fun _ => takenV j.v n.abs.ops = false) ?_ ?_
          · refine swp_loop (σ := Nat) (fun m => [(5, .pointer (some ⟨b0, 0, none⟩)), (6, .pointer (some ⟨bp, 0, none⟩)), (74, .slice a' is.length c'), (75, .int .i64 is.length), (76, .int .i64 m)]) (fun _ => pt bp (cl [.slice none 0 0, .slice none 0 0, .slice none 0 0] 97) :: pt b0 (cl n.cells 36) :: rjP p sf v pa ps pc da ds dc :: rP v j.v.dim a es c a' is c' j.v.mark :: roM Mv :: roM M :: roM M0 :: L)
              (fun m => m ≤ is.length ∧ ((is.take m).any fun i => n.ops.any fun o => holdsV (i.ops.map OV.abs) o.id) = false) (fun m => is.length - m) 0 ⟨rfl, rfl, rfl, rfl, rfl, trivial⟩ (by exact Go.SX.Ent.go) ⟨by omega, by simp⟩ ?_
            rintro m ⟨hm1, hm2⟩
            by_cases hlt : m < is.length
            · obtain ⟨i, hi⟩ := mem_get hlt
              have hmi : i ∈ is := List.mem_of_getElem? hi
              have hio := hopl i hmi
              have hrs : RdS (pt bp (cl [.slice none 0 0, .slice none 0 0, .slice none 0 0] 97) :: pt b0 (cl n.cells 36) :: rjP p sf v pa ps pc da ds dc :: rP v j.v.dim a es c a' is c' j.v.mark :: roM Mv :: roM M :: roM M0 :: L) a' is.length 3 (is.flatMap IV.cells) := hok.sI.rd
              obtain ⟨bi, oi, hia, hr⟩ := RdS.elem (g := IV.cells) (fun _ => rfl) hrs hi rfl
              clear hrs
              rw [hia] at hr ⊢
              refine Q.r ?_; (repeat (intro b1; refine Q.r ?_))
              rename_i b1
              refine swp_loop (σ := Nat) (fun q => [(5, .pointer (some ⟨b0, 0, none⟩)), (6, .pointer (some ⟨bp, 0, none⟩)), (10, .pointer (some ⟨b1, 0, none⟩)), (74, .slice (some ⟨bi, oi, none⟩) is.length c'), (75, .int .i64 is.length), (76, .int .i64 m), (81, .slice n.oa n.ops.length n.oc), (82, .int .i64 n.ops.length), (83, .int .i64 q)])
                (fun _ => pt b1 (cl i.cells 177) :: pt bp (cl [.slice none 0 0, .slice none 0 0, .slice none 0 0] 97) :: pt b0 (cl n.cells 36) :: rjP p sf v pa ps pc da ds dc :: rP v j.v.dim a es c (some ⟨bi, oi, none⟩) is c' j.v.mark :: roM Mv :: roM M :: roM M0 :: L)
                (fun q => q ≤ n.ops.length ∧ ((n.ops.take q).any fun o => holdsV (i.ops.map OV.abs) o.id) = false) (fun q => n.ops.length - q) 0 ⟨rfl, rfl, rfl, rfl, rfl, rfl, rfl, rfl, rfl, trivial⟩ (by exact Go.SX.Ent.go) ⟨by omega, by simp⟩ ?_
              rintro q ⟨hq1, hq2⟩
              by_cases hqt : q < n.ops.length
              · obtain ⟨o, ho⟩ := mem_get hqt
                have hmo : o ∈ n.ops := List.mem_of_getElem? ho
                have hrs : RdS (pt b1 (cl i.cells 177) :: pt bp (cl [.slice none 0 0, .slice none 0 0, .slice none 0 0] 97) :: pt b0 (cl n.cells 36) :: rjP p sf v pa ps pc da ds dc :: rP v j.v.dim a es c (some ⟨bi, oi, none⟩) is c' j.v.mark :: roM Mv :: roM M :: roM M0 :: L) n.oa n.ops.length 2 (n.ops.flatMap OV.cells) := hn.rd.o.1
                obtain ⟨bo, oo, hoa, hr2⟩ := RdS.elem (g := OV.cells) (fun _ => rfl) hrs ho rfl
                clear hrs hr
                rw [hoa]
                refine Q.r ?_; (repeat (intro b1; refine Q.r ?_))
                refine S.cr (args := [i.val, .int .u64 o.id]) rfl (RHolds_spec i o.id _ (hok.oi i hmi).rd (by omega)) ?_
                rintro _ _ ⟨rfl, rfl⟩
                cases hh : holdsV (i.ops.map OV.abs) o.id with
                | true =>
                  have ht : takenV j.v n.abs.ops = true := by
                    show takenV j.v (n.ops.map OV.abs) = true
                    rw [ht0, List.any_eq_true.2 ⟨i, hmi, List.any_eq_true.2 ⟨o, hmo, hh⟩⟩]
                  rw [if_pos ht]
                  refine Q.r ?_; (repeat (intro b1; refine Q.r ?_))
                  refine S.cr rfl (Rvote_spec n.txn 11 _) ?_
                  rintro _ _ ⟨rfl, rfl⟩
                  refine Q.r ?_; (repeat (intro b1; refine Q.r ?_))
                  rw [← hia]
                  refine N.r1 (by apply RV.cellN; rfl; exact RdC.row; rfl; exact RV.nil) ?_ ⟨none, 0, some ⟨b1, 0, none⟩, 1, none, 0, rfl, rfl⟩; show Ent _ (qR :: slO 135 17 (some ⟨b1, 0, none⟩) 1 1 (mailC (voteN n.txn 11)) :: qM :: rjH p j :: roM M0 :: L); refine Ent.nilS ?_; refine Ent.trans ?_ (slO_fold rfl); refine Ent.trans (rjc (p := p) (v := v) (sf := sf) (pa := pa) (pc := pc) (ps := ps) (da := da) (dc := dc) (ds := ds) (a := a) (a' := a') (c := c) (c' := c') (es := es) (is := is) hq hok) ?_; exact Go.SX.Ent.go
                | false =>
                  refine Q.r ?_; (repeat (intro b1; refine Q.r ?_))
                  refine ⟨q + 1, ⟨rfl, rfl, rfl, rfl, rfl, rfl, by rw [← hoa]; rfl, rfl, rfl, trivial⟩, by exact Go.SX.Ent.go, ⟨by omega, ?_⟩, by omega⟩
                  rw [take_snoc ho, List.any_append, hq2, List.any_cons, hh]; rfl
              · have hqe : q = n.ops.length := by omega
                subst hqe
                rw [List.take_length] at hq2
                refine Q.r ?_; (repeat (intro b1; refine Q.r ?_))
                refine ⟨m + 1, ⟨rfl, rfl, rfl, rfl, rfl, trivial⟩, by exact Go.SX.Ent.go, ⟨by omega, ?_⟩, by omega⟩
                rw [take_snoc hi, List.any_append, hm2, List.any_cons, hq2]; rfl
            · have hme : m = is.length := by omega
              subst hme
              rw [List.take_length] at hm2
              refine Q.r ?_; (repeat (intro b1; refine Q.r ?_))
              refine ⟨(), ⟨rfl, rfl, trivial⟩, by exact Go.SX.Ent.go, ?_⟩
              show takenV j.v (n.ops.map OV.abs) = false
              rw [ht0]; exact hm2
          · intro _ ht
            rw [if_neg (by rw [ht]; decide)]
            refine Q.r ?_; (repeat (intro b1; refine Q.r ?_))
            refine Q.dgo [false, true] [9, 12, 13, 16, 17, 19] [] [0, 1, 2, 3, 4, 5, 6, 7, 8, 10, 11, 14, 15, 99999, 0, 0, 0, 0, 0, 0] ?_
            refine Q.rd ?_; (repeat (intro b1; refine Q.rd ?_))
            refine D.two 9 12 [12, 99999, 0, 0, 0, 0] [99999, 0, 0, 0, 0, 0] (by kernel_rfl) rfl rfl rfl rfl (by kernel_rfl) (by kernel_rfl) ?_ ?_
            · refine S.bs1 (cs := (⟨12, n.txn, 0, 0, n.after, 0, 0, 0, 0, 0, 0, 0, n.pa, n.pc, n.parts, n.oa, n.oc, n.ops, none, 0, [], none, 0, []⟩ : NV).cells) rfl rfl rfl rfl rfl (fun bR => ?_)
              refine Q.r ?_; (repeat (intro b1; refine Q.r ?_))
              repeat (first | refine D.endA ?_ | refine Q.dy rfl rfl rfl ?_ | refine Q.dp rfl rfl rfl ?_ | refine D.end_ ?_ | refine Q.endH ?_ | (refine D.e rfl rfl rfl ?_; (first | refine S.gskip1 rfl ?_ | refine S.gskip rfl ?_ | refine S.y (Y.gskipU rfl) ?_); refine opsS_nil ?_; refine N.tn ?_))
              refine D.e rfl rfl rfl ?_
              refine S.cr rfl (Rvote_spec n.txn 0 _) ?_
              rintro _ _ ⟨rfl, rfl⟩
              refine Q.r ?_; (repeat (intro b1; refine Q.r ?_))
              repeat (first | refine D.endA ?_ | refine Q.dy rfl rfl rfl ?_ | refine Q.dp rfl rfl rfl ?_ | refine D.end_ ?_ | refine Q.endH ?_ | (refine D.e rfl rfl rfl ?_; (first | refine S.gskip1 rfl ?_ | refine S.gskip rfl ?_ | refine S.y (Y.gskipU rfl) ?_); refine opsS_nil ?_; refine N.tn ?_))
              refine D.two 13 16 [16, 17, 18, 19] [99999, 0, 0, 0] (by kernel_rfl) rfl rfl rfl rfl (by kernel_rfl) (by kernel_rfl) ?_ ?_
              · refine S.bs1 (cs := mailC (voteN n.txn 0)) rfl rfl rfl rfl rfl (fun bM => ?_)
                refine Q.r ?_; (repeat (intro b1; refine Q.r ?_))
                repeat (first | refine D.endA ?_ | refine Q.dy rfl rfl rfl ?_ | refine Q.dp rfl rfl rfl ?_ | refine D.end_ ?_ | refine Q.endH ?_ | (refine D.e rfl rfl rfl ?_; (first | refine S.gskip1 rfl ?_ | refine S.gskip rfl ?_ | refine S.y (Y.gskipU rfl) ?_); refine opsS_nil ?_; refine N.tn ?_))
                refine D.e rfl rfl rfl ?_
                refine S.cr rfl (Rvote_spec n.txn 8 _) ?_
                rintro _ _ ⟨rfl, rfl⟩
                refine Q.r ?_; (repeat (intro b1; refine Q.r ?_))
                repeat (first | refine D.endA ?_ | refine Q.dy rfl rfl rfl ?_ | refine Q.dp rfl rfl rfl ?_ | refine D.end_ ?_ | refine Q.endH ?_ | (refine D.e rfl rfl rfl ?_; (first | refine S.gskip1 rfl ?_ | refine S.gskip rfl ?_ | refine S.y (Y.gskipU rfl) ?_); refine opsS_nil ?_; refine N.tn ?_))
                refine D.e rfl rfl rfl ?_
                refine S.bs1 (cs := mailC (voteN n.txn 8)) rfl rfl rfl rfl rfl (fun bE => ?_)
                refine Q.r ?_; (repeat (intro b1; refine Q.r ?_))
                repeat (first | refine D.endA ?_ | refine Q.dy rfl rfl rfl ?_ | refine Q.dp rfl rfl rfl ?_ | refine D.end_ ?_ | refine Q.endH ?_ | (refine D.e rfl rfl rfl ?_; (first | refine S.gskip1 rfl ?_ | refine S.gskip rfl ?_ | refine S.y (Y.gskipU rfl) ?_); refine opsS_nil ?_; refine N.tn ?_))
                refine Q.rd ?_; (repeat (intro b1; refine Q.rd ?_))
                refine Q.r ?_; (repeat (intro b1; refine Q.r ?_))
                refine N.r1 (by apply RV.cellN; rfl; exact RdC.row; rfl; exact RV.nil) ?_ ⟨some ⟨bR, 0, none⟩, 1, some ⟨bM, 0, none⟩, 1, some ⟨bE, 0, none⟩, 1, rfl, rfl⟩; show Ent _ (slO 36 16 (some ⟨bR, 0, none⟩) 1 1 (⟨12, n.txn, 0, 0, n.after, 0, 0, 0, 0, 0, 0, 0, n.pa, n.pc, n.parts, n.oa, n.oc, n.ops, none, 0, [], none, 0, []⟩ : NV).cells :: slO 135 17 (some ⟨bM, 0, none⟩) 1 1 (mailC (voteN n.txn 0)) :: slO 135 17 (some ⟨bE, 0, none⟩) 1 1 (mailC (voteN n.txn 8)) :: rjH p j :: roM M0 :: L); refine Ent.trans (rjc (p := p) (v := v) (sf := sf) (pa := pa) (pc := pc) (ps := ps) (da := da) (dc := dc) (ds := ds) (a := a) (a' := a') (c := c) (c' := c') (es := es) (is := is) hq hok) ?_; exact Go.SX.Ent.go
              · refine S.cr rfl (Rvote_spec n.txn 8 _) ?_
                rintro _ _ ⟨rfl, rfl⟩
                refine Q.r ?_; (repeat (intro b1; refine Q.r ?_))
                repeat (first | refine D.endA ?_ | refine Q.dy rfl rfl rfl ?_ | refine Q.dp rfl rfl rfl ?_ | refine D.end_ ?_ | refine Q.endH ?_ | (refine D.e rfl rfl rfl ?_; (first | refine S.gskip1 rfl ?_ | refine S.gskip rfl ?_ | refine S.y (Y.gskipU rfl) ?_); refine opsS_nil ?_; refine N.tn ?_))
                refine D.two 13 17 [17, 18, 19] [13, 18, 19] (by kernel_rfl) rfl rfl rfl rfl (by kernel_rfl) (by kernel_rfl) ?_ ?_
                · refine S.bs1 (cs := mailC (voteN n.txn 0)) rfl rfl rfl rfl rfl (fun bM => ?_)
                  refine Q.r ?_; (repeat (intro b1; refine Q.r ?_))
                  repeat (first | refine D.endA ?_ | refine Q.dy rfl rfl rfl ?_ | refine Q.dp rfl rfl rfl ?_ | refine D.end_ ?_ | refine Q.endH ?_ | (refine D.e rfl rfl rfl ?_; (first | refine S.gskip1 rfl ?_ | refine S.gskip rfl ?_ | refine S.y (Y.gskipU rfl) ?_); refine opsS_nil ?_; refine N.tn ?_))
                  refine D.e rfl rfl rfl ?_
                  refine S.bs1 (cs := mailC (voteN n.txn 8)) rfl rfl rfl rfl rfl (fun bE => ?_)
                  refine Q.r ?_; (repeat (intro b1; refine Q.r ?_))
                  repeat (first | refine D.endA ?_ | refine Q.dy rfl rfl rfl ?_ | refine Q.dp rfl rfl rfl ?_ | refine D.end_ ?_ | refine Q.endH ?_ | (refine D.e rfl rfl rfl ?_; (first | refine S.gskip1 rfl ?_ | refine S.gskip rfl ?_ | refine S.y (Y.gskipU rfl) ?_); refine opsS_nil ?_; refine N.tn ?_))
                  refine Q.rd ?_; (repeat (intro b1; refine Q.rd ?_))
                  refine Q.r ?_; (repeat (intro b1; refine Q.r ?_))
                  refine N.r1 (by apply RV.cellN; rfl; exact RdC.row; rfl; exact RV.nil) ?_ ⟨some ⟨bR, 0, none⟩, 1, some ⟨bM, 0, none⟩, 1, some ⟨bE, 0, none⟩, 1, rfl, rfl⟩; show Ent _ (slO 36 16 (some ⟨bR, 0, none⟩) 1 1 (⟨12, n.txn, 0, 0, n.after, 0, 0, 0, 0, 0, 0, 0, n.pa, n.pc, n.parts, n.oa, n.oc, n.ops, none, 0, [], none, 0, []⟩ : NV).cells :: slO 135 17 (some ⟨bM, 0, none⟩) 1 1 (mailC (voteN n.txn 0)) :: slO 135 17 (some ⟨bE, 0, none⟩) 1 1 (mailC (voteN n.txn 8)) :: rjH p j :: roM M0 :: L); refine Ent.trans (rjc (p := p) (v := v) (sf := sf) (pa := pa) (pc := pc) (ps := ps) (da := da) (dc := dc) (ds := ds) (a := a) (a' := a') (c := c) (c' := c') (es := es) (is := is) hq hok) ?_; exact Go.SX.Ent.go
                · refine S.bs1 (cs := mailC (voteN n.txn 8)) rfl rfl rfl rfl rfl (fun bE => ?_)
                  refine Q.r ?_; (repeat (intro b1; refine Q.r ?_))
                  repeat (first | refine D.endA ?_ | refine Q.dy rfl rfl rfl ?_ | refine Q.dp rfl rfl rfl ?_ | refine D.end_ ?_ | refine Q.endH ?_ | (refine D.e rfl rfl rfl ?_; (first | refine S.gskip1 rfl ?_ | refine S.gskip rfl ?_ | refine S.y (Y.gskipU rfl) ?_); refine opsS_nil ?_; refine N.tn ?_))
                  refine D.e rfl rfl rfl ?_
                  refine S.bs1 (cs := mailC (voteN n.txn 0)) rfl rfl rfl rfl rfl (fun bM => ?_)
                  refine Q.r ?_; (repeat (intro b1; refine Q.r ?_))
                  repeat (first | refine D.endA ?_ | refine Q.dy rfl rfl rfl ?_ | refine Q.dp rfl rfl rfl ?_ | refine D.end_ ?_ | refine Q.endH ?_ | (refine D.e rfl rfl rfl ?_; (first | refine S.gskip1 rfl ?_ | refine S.gskip rfl ?_ | refine S.y (Y.gskipU rfl) ?_); refine opsS_nil ?_; refine N.tn ?_))
                  refine Q.rd ?_; (repeat (intro b1; refine Q.rd ?_))
                  refine Q.r ?_; (repeat (intro b1; refine Q.r ?_))
                  refine N.r1 (by apply RV.cellN; rfl; exact RdC.row; rfl; exact RV.nil) ?_ ⟨some ⟨bR, 0, none⟩, 1, some ⟨bM, 0, none⟩, 1, some ⟨bE, 0, none⟩, 1, rfl, rfl⟩; show Ent _ (slO 36 16 (some ⟨bR, 0, none⟩) 1 1 (⟨12, n.txn, 0, 0, n.after, 0, 0, 0, 0, 0, 0, 0, n.pa, n.pc, n.parts, n.oa, n.oc, n.ops, none, 0, [], none, 0, []⟩ : NV).cells :: slO 135 17 (some ⟨bM, 0, none⟩) 1 1 (mailC (voteN n.txn 0)) :: slO 135 17 (some ⟨bE, 0, none⟩) 1 1 (mailC (voteN n.txn 8)) :: rjH p j :: roM M0 :: L); refine Ent.trans (rjc (p := p) (v := v) (sf := sf) (pa := pa) (pc := pc) (ps := ps) (da := da) (dc := dc) (ds := ds) (a := a) (a' := a') (c := c) (c' := c') (es := es) (is := is) hq hok) ?_; exact Go.SX.Ent.go
            · refine S.cr rfl (Rvote_spec n.txn 0 _) ?_
              rintro _ _ ⟨rfl, rfl⟩
              refine Q.r ?_; (repeat (intro b1; refine Q.r ?_))
              repeat (first | refine D.endA ?_ | refine Q.dy rfl rfl rfl ?_ | refine Q.dp rfl rfl rfl ?_ | refine D.end_ ?_ | refine Q.endH ?_ | (refine D.e rfl rfl rfl ?_; (first | refine S.gskip1 rfl ?_ | refine S.gskip rfl ?_ | refine S.y (Y.gskipU rfl) ?_); refine opsS_nil ?_; refine N.tn ?_))
              refine D.three 9 13 16 [99999, 0, 0, 0, 0] [99999, 0, 0, 0, 0] [99999, 0, 0, 0, 0] (by kernel_rfl) rfl rfl rfl rfl rfl rfl (by kernel_rfl) (by kernel_rfl) (by kernel_rfl) ?_ ?_ ?_
              · refine S.bs1 (cs := (⟨12, n.txn, 0, 0, n.after, 0, 0, 0, 0, 0, 0, 0, n.pa, n.pc, n.parts, n.oa, n.oc, n.ops, none, 0, [], none, 0, []⟩ : NV).cells) rfl rfl rfl rfl rfl (fun bR => ?_)
                refine Q.r ?_; (repeat (intro b1; refine Q.r ?_))
                repeat (first | refine D.endA ?_ | refine Q.dy rfl rfl rfl ?_ | refine Q.dp rfl rfl rfl ?_ | refine D.end_ ?_ | refine Q.endH ?_ | (refine D.e rfl rfl rfl ?_; (first | refine S.gskip1 rfl ?_ | refine S.gskip rfl ?_ | refine S.y (Y.gskipU rfl) ?_); refine opsS_nil ?_; refine N.tn ?_))
                refine D.two 13 16 [16, 17, 18, 19] [99999, 0, 0, 0] (by kernel_rfl) rfl rfl rfl rfl (by kernel_rfl) (by kernel_rfl) ?_ ?_
                · refine S.bs1 (cs := mailC (voteN n.txn 0)) rfl rfl rfl rfl rfl (fun bM => ?_)
                  refine Q.r ?_; (repeat (intro b1; refine Q.r ?_))
                  repeat (first | refine D.endA ?_ | refine Q.dy rfl rfl rfl ?_ | refine Q.dp rfl rfl rfl ?_ | refine D.end_ ?_ | refine Q.endH ?_ | (refine D.e rfl rfl rfl ?_; (first | refine S.gskip1 rfl ?_ | refine S.gskip rfl ?_ | refine S.y (Y.gskipU rfl) ?_); refine opsS_nil ?_; refine N.tn ?_))
                  refine D.e rfl rfl rfl ?_
                  refine S.cr rfl (Rvote_spec n.txn 8 _) ?_
                  rintro _ _ ⟨rfl, rfl⟩
                  refine Q.r ?_; (repeat (intro b1; refine Q.r ?_))
                  repeat (first | refine D.endA ?_ | refine Q.dy rfl rfl rfl ?_ | refine Q.dp rfl rfl rfl ?_ | refine D.end_ ?_ | refine Q.endH ?_ | (refine D.e rfl rfl rfl ?_; (first | refine S.gskip1 rfl ?_ | refine S.gskip rfl ?_ | refine S.y (Y.gskipU rfl) ?_); refine opsS_nil ?_; refine N.tn ?_))
                  refine D.e rfl rfl rfl ?_
                  refine S.bs1 (cs := mailC (voteN n.txn 8)) rfl rfl rfl rfl rfl (fun bE => ?_)
                  refine Q.r ?_; (repeat (intro b1; refine Q.r ?_))
                  repeat (first | refine D.endA ?_ | refine Q.dy rfl rfl rfl ?_ | refine Q.dp rfl rfl rfl ?_ | refine D.end_ ?_ | refine Q.endH ?_ | (refine D.e rfl rfl rfl ?_; (first | refine S.gskip1 rfl ?_ | refine S.gskip rfl ?_ | refine S.y (Y.gskipU rfl) ?_); refine opsS_nil ?_; refine N.tn ?_))
                  refine Q.rd ?_; (repeat (intro b1; refine Q.rd ?_))
                  refine Q.r ?_; (repeat (intro b1; refine Q.r ?_))
                  refine N.r1 (by apply RV.cellN; rfl; exact RdC.row; rfl; exact RV.nil) ?_ ⟨some ⟨bR, 0, none⟩, 1, some ⟨bM, 0, none⟩, 1, some ⟨bE, 0, none⟩, 1, rfl, rfl⟩; show Ent _ (slO 36 16 (some ⟨bR, 0, none⟩) 1 1 (⟨12, n.txn, 0, 0, n.after, 0, 0, 0, 0, 0, 0, 0, n.pa, n.pc, n.parts, n.oa, n.oc, n.ops, none, 0, [], none, 0, []⟩ : NV).cells :: slO 135 17 (some ⟨bM, 0, none⟩) 1 1 (mailC (voteN n.txn 0)) :: slO 135 17 (some ⟨bE, 0, none⟩) 1 1 (mailC (voteN n.txn 8)) :: rjH p j :: roM M0 :: L); refine Ent.trans (rjc (p := p) (v := v) (sf := sf) (pa := pa) (pc := pc) (ps := ps) (da := da) (dc := dc) (ds := ds) (a := a) (a' := a') (c := c) (c' := c') (es := es) (is := is) hq hok) ?_; exact Go.SX.Ent.go
                · refine S.cr rfl (Rvote_spec n.txn 8 _) ?_
                  rintro _ _ ⟨rfl, rfl⟩
                  refine Q.r ?_; (repeat (intro b1; refine Q.r ?_))
                  repeat (first | refine D.endA ?_ | refine Q.dy rfl rfl rfl ?_ | refine Q.dp rfl rfl rfl ?_ | refine D.end_ ?_ | refine Q.endH ?_ | (refine D.e rfl rfl rfl ?_; (first | refine S.gskip1 rfl ?_ | refine S.gskip rfl ?_ | refine S.y (Y.gskipU rfl) ?_); refine opsS_nil ?_; refine N.tn ?_))
                  refine D.two 13 17 [17, 18, 19] [13, 18, 19] (by kernel_rfl) rfl rfl rfl rfl (by kernel_rfl) (by kernel_rfl) ?_ ?_
                  · refine S.bs1 (cs := mailC (voteN n.txn 0)) rfl rfl rfl rfl rfl (fun bM => ?_)
                    refine Q.r ?_; (repeat (intro b1; refine Q.r ?_))
                    repeat (first | refine D.endA ?_ | refine Q.dy rfl rfl rfl ?_ | refine Q.dp rfl rfl rfl ?_ | refine D.end_ ?_ | refine Q.endH ?_ | (refine D.e rfl rfl rfl ?_; (first | refine S.gskip1 rfl ?_ | refine S.gskip rfl ?_ | refine S.y (Y.gskipU rfl) ?_); refine opsS_nil ?_; refine N.tn ?_))
                    refine D.e rfl rfl rfl ?_
                    refine S.bs1 (cs := mailC (voteN n.txn 8)) rfl rfl rfl rfl rfl (fun bE => ?_)
                    refine Q.r ?_; (repeat (intro b1; refine Q.r ?_))
                    repeat (first | refine D.endA ?_ | refine Q.dy rfl rfl rfl ?_ | refine Q.dp rfl rfl rfl ?_ | refine D.end_ ?_ | refine Q.endH ?_ | (refine D.e rfl rfl rfl ?_; (first | refine S.gskip1 rfl ?_ | refine S.gskip rfl ?_ | refine S.y (Y.gskipU rfl) ?_); refine opsS_nil ?_; refine N.tn ?_))
                    refine Q.rd ?_; (repeat (intro b1; refine Q.rd ?_))
                    refine Q.r ?_; (repeat (intro b1; refine Q.r ?_))
                    refine N.r1 (by apply RV.cellN; rfl; exact RdC.row; rfl; exact RV.nil) ?_ ⟨some ⟨bR, 0, none⟩, 1, some ⟨bM, 0, none⟩, 1, some ⟨bE, 0, none⟩, 1, rfl, rfl⟩; show Ent _ (slO 36 16 (some ⟨bR, 0, none⟩) 1 1 (⟨12, n.txn, 0, 0, n.after, 0, 0, 0, 0, 0, 0, 0, n.pa, n.pc, n.parts, n.oa, n.oc, n.ops, none, 0, [], none, 0, []⟩ : NV).cells :: slO 135 17 (some ⟨bM, 0, none⟩) 1 1 (mailC (voteN n.txn 0)) :: slO 135 17 (some ⟨bE, 0, none⟩) 1 1 (mailC (voteN n.txn 8)) :: rjH p j :: roM M0 :: L); refine Ent.trans (rjc (p := p) (v := v) (sf := sf) (pa := pa) (pc := pc) (ps := ps) (da := da) (dc := dc) (ds := ds) (a := a) (a' := a') (c := c) (c' := c') (es := es) (is := is) hq hok) ?_; exact Go.SX.Ent.go
                  · refine S.bs1 (cs := mailC (voteN n.txn 8)) rfl rfl rfl rfl rfl (fun bE => ?_)
                    refine Q.r ?_; (repeat (intro b1; refine Q.r ?_))
                    repeat (first | refine D.endA ?_ | refine Q.dy rfl rfl rfl ?_ | refine Q.dp rfl rfl rfl ?_ | refine D.end_ ?_ | refine Q.endH ?_ | (refine D.e rfl rfl rfl ?_; (first | refine S.gskip1 rfl ?_ | refine S.gskip rfl ?_ | refine S.y (Y.gskipU rfl) ?_); refine opsS_nil ?_; refine N.tn ?_))
                    refine D.e rfl rfl rfl ?_
                    refine S.bs1 (cs := mailC (voteN n.txn 0)) rfl rfl rfl rfl rfl (fun bM => ?_)
                    refine Q.r ?_; (repeat (intro b1; refine Q.r ?_))
                    repeat (first | refine D.endA ?_ | refine Q.dy rfl rfl rfl ?_ | refine Q.dp rfl rfl rfl ?_ | refine D.end_ ?_ | refine Q.endH ?_ | (refine D.e rfl rfl rfl ?_; (first | refine S.gskip1 rfl ?_ | refine S.gskip rfl ?_ | refine S.y (Y.gskipU rfl) ?_); refine opsS_nil ?_; refine N.tn ?_))
                    refine Q.rd ?_; (repeat (intro b1; refine Q.rd ?_))
                    refine Q.r ?_; (repeat (intro b1; refine Q.r ?_))
                    refine N.r1 (by apply RV.cellN; rfl; exact RdC.row; rfl; exact RV.nil) ?_ ⟨some ⟨bR, 0, none⟩, 1, some ⟨bM, 0, none⟩, 1, some ⟨bE, 0, none⟩, 1, rfl, rfl⟩; show Ent _ (slO 36 16 (some ⟨bR, 0, none⟩) 1 1 (⟨12, n.txn, 0, 0, n.after, 0, 0, 0, 0, 0, 0, 0, n.pa, n.pc, n.parts, n.oa, n.oc, n.ops, none, 0, [], none, 0, []⟩ : NV).cells :: slO 135 17 (some ⟨bM, 0, none⟩) 1 1 (mailC (voteN n.txn 0)) :: slO 135 17 (some ⟨bE, 0, none⟩) 1 1 (mailC (voteN n.txn 8)) :: rjH p j :: roM M0 :: L); refine Ent.trans (rjc (p := p) (v := v) (sf := sf) (pa := pa) (pc := pc) (ps := ps) (da := da) (dc := dc) (ds := ds) (a := a) (a' := a') (c := c) (c' := c') (es := es) (is := is) hq hok) ?_; exact Go.SX.Ent.go
              · refine S.bs1 (cs := mailC (voteN n.txn 0)) rfl rfl rfl rfl rfl (fun bM => ?_)
                refine Q.r ?_; (repeat (intro b1; refine Q.r ?_))
                repeat (first | refine D.endA ?_ | refine Q.dy rfl rfl rfl ?_ | refine Q.dp rfl rfl rfl ?_ | refine D.end_ ?_ | refine Q.endH ?_ | (refine D.e rfl rfl rfl ?_; (first | refine S.gskip1 rfl ?_ | refine S.gskip rfl ?_ | refine S.y (Y.gskipU rfl) ?_); refine opsS_nil ?_; refine N.tn ?_))
                refine D.two 9 16 [16, 17, 18, 19] [99999, 0, 0, 0] (by kernel_rfl) rfl rfl rfl rfl (by kernel_rfl) (by kernel_rfl) ?_ ?_
                · refine S.bs1 (cs := (⟨12, n.txn, 0, 0, n.after, 0, 0, 0, 0, 0, 0, 0, n.pa, n.pc, n.parts, n.oa, n.oc, n.ops, none, 0, [], none, 0, []⟩ : NV).cells) rfl rfl rfl rfl rfl (fun bR => ?_)
                  refine Q.r ?_; (repeat (intro b1; refine Q.r ?_))
                  repeat (first | refine D.endA ?_ | refine Q.dy rfl rfl rfl ?_ | refine Q.dp rfl rfl rfl ?_ | refine D.end_ ?_ | refine Q.endH ?_ | (refine D.e rfl rfl rfl ?_; (first | refine S.gskip1 rfl ?_ | refine S.gskip rfl ?_ | refine S.y (Y.gskipU rfl) ?_); refine opsS_nil ?_; refine N.tn ?_))
                  refine D.e rfl rfl rfl ?_
                  refine S.cr rfl (Rvote_spec n.txn 8 _) ?_
                  rintro _ _ ⟨rfl, rfl⟩
                  refine Q.r ?_; (repeat (intro b1; refine Q.r ?_))
                  repeat (first | refine D.endA ?_ | refine Q.dy rfl rfl rfl ?_ | refine Q.dp rfl rfl rfl ?_ | refine D.end_ ?_ | refine Q.endH ?_ | (refine D.e rfl rfl rfl ?_; (first | refine S.gskip1 rfl ?_ | refine S.gskip rfl ?_ | refine S.y (Y.gskipU rfl) ?_); refine opsS_nil ?_; refine N.tn ?_))
                  refine D.e rfl rfl rfl ?_
                  refine S.bs1 (cs := mailC (voteN n.txn 8)) rfl rfl rfl rfl rfl (fun bE => ?_)
                  refine Q.r ?_; (repeat (intro b1; refine Q.r ?_))
                  repeat (first | refine D.endA ?_ | refine Q.dy rfl rfl rfl ?_ | refine Q.dp rfl rfl rfl ?_ | refine D.end_ ?_ | refine Q.endH ?_ | (refine D.e rfl rfl rfl ?_; (first | refine S.gskip1 rfl ?_ | refine S.gskip rfl ?_ | refine S.y (Y.gskipU rfl) ?_); refine opsS_nil ?_; refine N.tn ?_))
                  refine Q.rd ?_; (repeat (intro b1; refine Q.rd ?_))
                  refine Q.r ?_; (repeat (intro b1; refine Q.r ?_))
                  refine N.r1 (by apply RV.cellN; rfl; exact RdC.row; rfl; exact RV.nil) ?_ ⟨some ⟨bR, 0, none⟩, 1, some ⟨bM, 0, none⟩, 1, some ⟨bE, 0, none⟩, 1, rfl, rfl⟩; show Ent _ (slO 36 16 (some ⟨bR, 0, none⟩) 1 1 (⟨12, n.txn, 0, 0, n.after, 0, 0, 0, 0, 0, 0, 0, n.pa, n.pc, n.parts, n.oa, n.oc, n.ops, none, 0, [], none, 0, []⟩ : NV).cells :: slO 135 17 (some ⟨bM, 0, none⟩) 1 1 (mailC (voteN n.txn 0)) :: slO 135 17 (some ⟨bE, 0, none⟩) 1 1 (mailC (voteN n.txn 8)) :: rjH p j :: roM M0 :: L); refine Ent.trans (rjc (p := p) (v := v) (sf := sf) (pa := pa) (pc := pc) (ps := ps) (da := da) (dc := dc) (ds := ds) (a := a) (a' := a') (c := c) (c' := c') (es := es) (is := is) hq hok) ?_; exact Go.SX.Ent.go
                · refine S.cr rfl (Rvote_spec n.txn 8 _) ?_
                  rintro _ _ ⟨rfl, rfl⟩
                  refine Q.r ?_; (repeat (intro b1; refine Q.r ?_))
                  repeat (first | refine D.endA ?_ | refine Q.dy rfl rfl rfl ?_ | refine Q.dp rfl rfl rfl ?_ | refine D.end_ ?_ | refine Q.endH ?_ | (refine D.e rfl rfl rfl ?_; (first | refine S.gskip1 rfl ?_ | refine S.gskip rfl ?_ | refine S.y (Y.gskipU rfl) ?_); refine opsS_nil ?_; refine N.tn ?_))
                  refine D.two 9 17 [17, 18, 19] [9, 18, 19] (by kernel_rfl) rfl rfl rfl rfl (by kernel_rfl) (by kernel_rfl) ?_ ?_
                  · refine S.bs1 (cs := (⟨12, n.txn, 0, 0, n.after, 0, 0, 0, 0, 0, 0, 0, n.pa, n.pc, n.parts, n.oa, n.oc, n.ops, none, 0, [], none, 0, []⟩ : NV).cells) rfl rfl rfl rfl rfl (fun bR => ?_)
                    refine Q.r ?_; (repeat (intro b1; refine Q.r ?_))
                    repeat (first | refine D.endA ?_ | refine Q.dy rfl rfl rfl ?_ | refine Q.dp rfl rfl rfl ?_ | refine D.end_ ?_ | refine Q.endH ?_ | (refine D.e rfl rfl rfl ?_; (first | refine S.gskip1 rfl ?_ | refine S.gskip rfl ?_ | refine S.y (Y.gskipU rfl) ?_); refine opsS_nil ?_; refine N.tn ?_))
                    refine D.e rfl rfl rfl ?_
                    refine S.bs1 (cs := mailC (voteN n.txn 8)) rfl rfl rfl rfl rfl (fun bE => ?_)
                    refine Q.r ?_; (repeat (intro b1; refine Q.r ?_))
                    repeat (first | refine D.endA ?_ | refine Q.dy rfl rfl rfl ?_ | refine Q.dp rfl rfl rfl ?_ | refine D.end_ ?_ | refine Q.endH ?_ | (refine D.e rfl rfl rfl ?_; (first | refine S.gskip1 rfl ?_ | refine S.gskip rfl ?_ | refine S.y (Y.gskipU rfl) ?_); refine opsS_nil ?_; refine N.tn ?_))
                    refine Q.rd ?_; (repeat (intro b1; refine Q.rd ?_))
                    refine Q.r ?_; (repeat (intro b1; refine Q.r ?_))
                    refine N.r1 (by apply RV.cellN; rfl; exact RdC.row; rfl; exact RV.nil) ?_ ⟨some ⟨bR, 0, none⟩, 1, some ⟨bM, 0, none⟩, 1, some ⟨bE, 0, none⟩, 1, rfl, rfl⟩; show Ent _ (slO 36 16 (some ⟨bR, 0, none⟩) 1 1 (⟨12, n.txn, 0, 0, n.after, 0, 0, 0, 0, 0, 0, 0, n.pa, n.pc, n.parts, n.oa, n.oc, n.ops, none, 0, [], none, 0, []⟩ : NV).cells :: slO 135 17 (some ⟨bM, 0, none⟩) 1 1 (mailC (voteN n.txn 0)) :: slO 135 17 (some ⟨bE, 0, none⟩) 1 1 (mailC (voteN n.txn 8)) :: rjH p j :: roM M0 :: L); refine Ent.trans (rjc (p := p) (v := v) (sf := sf) (pa := pa) (pc := pc) (ps := ps) (da := da) (dc := dc) (ds := ds) (a := a) (a' := a') (c := c) (c' := c') (es := es) (is := is) hq hok) ?_; exact Go.SX.Ent.go
                  · refine S.bs1 (cs := mailC (voteN n.txn 8)) rfl rfl rfl rfl rfl (fun bE => ?_)
                    refine Q.r ?_; (repeat (intro b1; refine Q.r ?_))
                    repeat (first | refine D.endA ?_ | refine Q.dy rfl rfl rfl ?_ | refine Q.dp rfl rfl rfl ?_ | refine D.end_ ?_ | refine Q.endH ?_ | (refine D.e rfl rfl rfl ?_; (first | refine S.gskip1 rfl ?_ | refine S.gskip rfl ?_ | refine S.y (Y.gskipU rfl) ?_); refine opsS_nil ?_; refine N.tn ?_))
                    refine D.e rfl rfl rfl ?_
                    refine S.bs1 (cs := (⟨12, n.txn, 0, 0, n.after, 0, 0, 0, 0, 0, 0, 0, n.pa, n.pc, n.parts, n.oa, n.oc, n.ops, none, 0, [], none, 0, []⟩ : NV).cells) rfl rfl rfl rfl rfl (fun bR => ?_)
                    refine Q.r ?_; (repeat (intro b1; refine Q.r ?_))
                    repeat (first | refine D.endA ?_ | refine Q.dy rfl rfl rfl ?_ | refine Q.dp rfl rfl rfl ?_ | refine D.end_ ?_ | refine Q.endH ?_ | (refine D.e rfl rfl rfl ?_; (first | refine S.gskip1 rfl ?_ | refine S.gskip rfl ?_ | refine S.y (Y.gskipU rfl) ?_); refine opsS_nil ?_; refine N.tn ?_))
                    refine Q.rd ?_; (repeat (intro b1; refine Q.rd ?_))
                    refine Q.r ?_; (repeat (intro b1; refine Q.r ?_))
                    refine N.r1 (by apply RV.cellN; rfl; exact RdC.row; rfl; exact RV.nil) ?_ ⟨some ⟨bR, 0, none⟩, 1, some ⟨bM, 0, none⟩, 1, some ⟨bE, 0, none⟩, 1, rfl, rfl⟩; show Ent _ (slO 36 16 (some ⟨bR, 0, none⟩) 1 1 (⟨12, n.txn, 0, 0, n.after, 0, 0, 0, 0, 0, 0, 0, n.pa, n.pc, n.parts, n.oa, n.oc, n.ops, none, 0, [], none, 0, []⟩ : NV).cells :: slO 135 17 (some ⟨bM, 0, none⟩) 1 1 (mailC (voteN n.txn 0)) :: slO 135 17 (some ⟨bE, 0, none⟩) 1 1 (mailC (voteN n.txn 8)) :: rjH p j :: roM M0 :: L); refine Ent.trans (rjc (p := p) (v := v) (sf := sf) (pa := pa) (pc := pc) (ps := ps) (da := da) (dc := dc) (ds := ds) (a := a) (a' := a') (c := c) (c' := c') (es := es) (is := is) hq hok) ?_; exact Go.SX.Ent.go
              · refine S.cr rfl (Rvote_spec n.txn 8 _) ?_
                rintro _ _ ⟨rfl, rfl⟩
                refine Q.r ?_; (repeat (intro b1; refine Q.r ?_))
                repeat (first | refine D.endA ?_ | refine Q.dy rfl rfl rfl ?_ | refine Q.dp rfl rfl rfl ?_ | refine D.end_ ?_ | refine Q.endH ?_ | (refine D.e rfl rfl rfl ?_; (first | refine S.gskip1 rfl ?_ | refine S.gskip rfl ?_ | refine S.y (Y.gskipU rfl) ?_); refine opsS_nil ?_; refine N.tn ?_))
                refine D.three 9 13 17 [99999, 0, 0, 0] [99999, 0, 0, 0] [99999, 0, 0, 0] (by kernel_rfl) rfl rfl rfl rfl rfl rfl (by kernel_rfl) (by kernel_rfl) (by kernel_rfl) ?_ ?_ ?_
                · refine S.bs1 (cs := (⟨12, n.txn, 0, 0, n.after, 0, 0, 0, 0, 0, 0, 0, n.pa, n.pc, n.parts, n.oa, n.oc, n.ops, none, 0, [], none, 0, []⟩ : NV).cells) rfl rfl rfl rfl rfl (fun bR => ?_)
                  refine Q.r ?_; (repeat (intro b1; refine Q.r ?_))
                  repeat (first | refine D.endA ?_ | refine Q.dy rfl rfl rfl ?_ | refine Q.dp rfl rfl rfl ?_ | refine D.end_ ?_ | refine Q.endH ?_ | (refine D.e rfl rfl rfl ?_; (first | refine S.gskip1 rfl ?_ | refine S.gskip rfl ?_ | refine S.y (Y.gskipU rfl) ?_); refine opsS_nil ?_; refine N.tn ?_))
                  refine D.two 13 17 [17, 18, 19] [13, 18, 19] (by kernel_rfl) rfl rfl rfl rfl (by kernel_rfl) (by kernel_rfl) ?_ ?_
                  · refine S.bs1 (cs := mailC (voteN n.txn 0)) rfl rfl rfl rfl rfl (fun bM => ?_)
                    refine Q.r ?_; (repeat (intro b1; refine Q.r ?_))
                    repeat (first | refine D.endA ?_ | refine Q.dy rfl rfl rfl ?_ | refine Q.dp rfl rfl rfl ?_ | refine D.end_ ?_ | refine Q.endH ?_ | (refine D.e rfl rfl rfl ?_; (first | refine S.gskip1 rfl ?_ | refine S.gskip rfl ?_ | refine S.y (Y.gskipU rfl) ?_); refine opsS_nil ?_; refine N.tn ?_))
                    refine D.e rfl rfl rfl ?_
                    refine S.bs1 (cs := mailC (voteN n.txn 8)) rfl rfl rfl rfl rfl (fun bE => ?_)
                    refine Q.r ?_; (repeat (intro b1; refine Q.r ?_))
                    repeat (first | refine D.endA ?_ | refine Q.dy rfl rfl rfl ?_ | refine Q.dp rfl rfl rfl ?_ | refine D.end_ ?_ | refine Q.endH ?_ | (refine D.e rfl rfl rfl ?_; (first | refine S.gskip1 rfl ?_ | refine S.gskip rfl ?_ | refine S.y (Y.gskipU rfl) ?_); refine opsS_nil ?_; refine N.tn ?_))
                    refine Q.rd ?_; (repeat (intro b1; refine Q.rd ?_))
                    refine Q.r ?_; (repeat (intro b1; refine Q.r ?_))
                    refine N.r1 (by apply RV.cellN; rfl; exact RdC.row; rfl; exact RV.nil) ?_ ⟨some ⟨bR, 0, none⟩, 1, some ⟨bM, 0, none⟩, 1, some ⟨bE, 0, none⟩, 1, rfl, rfl⟩; show Ent _ (slO 36 16 (some ⟨bR, 0, none⟩) 1 1 (⟨12, n.txn, 0, 0, n.after, 0, 0, 0, 0, 0, 0, 0, n.pa, n.pc, n.parts, n.oa, n.oc, n.ops, none, 0, [], none, 0, []⟩ : NV).cells :: slO 135 17 (some ⟨bM, 0, none⟩) 1 1 (mailC (voteN n.txn 0)) :: slO 135 17 (some ⟨bE, 0, none⟩) 1 1 (mailC (voteN n.txn 8)) :: rjH p j :: roM M0 :: L); refine Ent.trans (rjc (p := p) (v := v) (sf := sf) (pa := pa) (pc := pc) (ps := ps) (da := da) (dc := dc) (ds := ds) (a := a) (a' := a') (c := c) (c' := c') (es := es) (is := is) hq hok) ?_; exact Go.SX.Ent.go
                  · refine S.bs1 (cs := mailC (voteN n.txn 8)) rfl rfl rfl rfl rfl (fun bE => ?_)
                    refine Q.r ?_; (repeat (intro b1; refine Q.r ?_))
                    repeat (first | refine D.endA ?_ | refine Q.dy rfl rfl rfl ?_ | refine Q.dp rfl rfl rfl ?_ | refine D.end_ ?_ | refine Q.endH ?_ | (refine D.e rfl rfl rfl ?_; (first | refine S.gskip1 rfl ?_ | refine S.gskip rfl ?_ | refine S.y (Y.gskipU rfl) ?_); refine opsS_nil ?_; refine N.tn ?_))
                    refine D.e rfl rfl rfl ?_
                    refine S.bs1 (cs := mailC (voteN n.txn 0)) rfl rfl rfl rfl rfl (fun bM => ?_)
                    refine Q.r ?_; (repeat (intro b1; refine Q.r ?_))
                    repeat (first | refine D.endA ?_ | refine Q.dy rfl rfl rfl ?_ | refine Q.dp rfl rfl rfl ?_ | refine D.end_ ?_ | refine Q.endH ?_ | (refine D.e rfl rfl rfl ?_; (first | refine S.gskip1 rfl ?_ | refine S.gskip rfl ?_ | refine S.y (Y.gskipU rfl) ?_); refine opsS_nil ?_; refine N.tn ?_))
                    refine Q.rd ?_; (repeat (intro b1; refine Q.rd ?_))
                    refine Q.r ?_; (repeat (intro b1; refine Q.r ?_))
                    refine N.r1 (by apply RV.cellN; rfl; exact RdC.row; rfl; exact RV.nil) ?_ ⟨some ⟨bR, 0, none⟩, 1, some ⟨bM, 0, none⟩, 1, some ⟨bE, 0, none⟩, 1, rfl, rfl⟩; show Ent _ (slO 36 16 (some ⟨bR, 0, none⟩) 1 1 (⟨12, n.txn, 0, 0, n.after, 0, 0, 0, 0, 0, 0, 0, n.pa, n.pc, n.parts, n.oa, n.oc, n.ops, none, 0, [], none, 0, []⟩ : NV).cells :: slO 135 17 (some ⟨bM, 0, none⟩) 1 1 (mailC (voteN n.txn 0)) :: slO 135 17 (some ⟨bE, 0, none⟩) 1 1 (mailC (voteN n.txn 8)) :: rjH p j :: roM M0 :: L); refine Ent.trans (rjc (p := p) (v := v) (sf := sf) (pa := pa) (pc := pc) (ps := ps) (da := da) (dc := dc) (ds := ds) (a := a) (a' := a') (c := c) (c' := c') (es := es) (is := is) hq hok) ?_; exact Go.SX.Ent.go
                · refine S.bs1 (cs := mailC (voteN n.txn 0)) rfl rfl rfl rfl rfl (fun bM => ?_)
                  refine Q.r ?_; (repeat (intro b1; refine Q.r ?_))
                  repeat (first | refine D.endA ?_ | refine Q.dy rfl rfl rfl ?_ | refine Q.dp rfl rfl rfl ?_ | refine D.end_ ?_ | refine Q.endH ?_ | (refine D.e rfl rfl rfl ?_; (first | refine S.gskip1 rfl ?_ | refine S.gskip rfl ?_ | refine S.y (Y.gskipU rfl) ?_); refine opsS_nil ?_; refine N.tn ?_))
                  refine D.two 9 17 [17, 18, 19] [9, 18, 19] (by kernel_rfl) rfl rfl rfl rfl (by kernel_rfl) (by kernel_rfl) ?_ ?_
                  · refine S.bs1 (cs := (⟨12, n.txn, 0, 0, n.after, 0, 0, 0, 0, 0, 0, 0, n.pa, n.pc, n.parts, n.oa, n.oc, n.ops, none, 0, [], none, 0, []⟩ : NV).cells) rfl rfl rfl rfl rfl (fun bR => ?_)
                    refine Q.r ?_; (repeat (intro b1; refine Q.r ?_))
                    repeat (first | refine D.endA ?_ | refine Q.dy rfl rfl rfl ?_ | refine Q.dp rfl rfl rfl ?_ | refine D.end_ ?_ | refine Q.endH ?_ | (refine D.e rfl rfl rfl ?_; (first | refine S.gskip1 rfl ?_ | refine S.gskip rfl ?_ | refine S.y (Y.gskipU rfl) ?_); refine opsS_nil ?_; refine N.tn ?_))
                    refine D.e rfl rfl rfl ?_
                    refine S.bs1 (cs := mailC (voteN n.txn 8)) rfl rfl rfl rfl rfl (fun bE => ?_)
                    refine Q.r ?_; (repeat (intro b1; refine Q.r ?_))
                    repeat (first | refine D.endA ?_ | refine Q.dy rfl rfl rfl ?_ | refine Q.dp rfl rfl rfl ?_ | refine D.end_ ?_ | refine Q.endH ?_ | (refine D.e rfl rfl rfl ?_; (first | refine S.gskip1 rfl ?_ | refine S.gskip rfl ?_ | refine S.y (Y.gskipU rfl) ?_); refine opsS_nil ?_; refine N.tn ?_))
                    refine Q.rd ?_; (repeat (intro b1; refine Q.rd ?_))
                    refine Q.r ?_; (repeat (intro b1; refine Q.r ?_))
                    refine N.r1 (by apply RV.cellN; rfl; exact RdC.row; rfl; exact RV.nil) ?_ ⟨some ⟨bR, 0, none⟩, 1, some ⟨bM, 0, none⟩, 1, some ⟨bE, 0, none⟩, 1, rfl, rfl⟩; show Ent _ (slO 36 16 (some ⟨bR, 0, none⟩) 1 1 (⟨12, n.txn, 0, 0, n.after, 0, 0, 0, 0, 0, 0, 0, n.pa, n.pc, n.parts, n.oa, n.oc, n.ops, none, 0, [], none, 0, []⟩ : NV).cells :: slO 135 17 (some ⟨bM, 0, none⟩) 1 1 (mailC (voteN n.txn 0)) :: slO 135 17 (some ⟨bE, 0, none⟩) 1 1 (mailC (voteN n.txn 8)) :: rjH p j :: roM M0 :: L); refine Ent.trans (rjc (p := p) (v := v) (sf := sf) (pa := pa) (pc := pc) (ps := ps) (da := da) (dc := dc) (ds := ds) (a := a) (a' := a') (c := c) (c' := c') (es := es) (is := is) hq hok) ?_; exact Go.SX.Ent.go
                  · refine S.bs1 (cs := mailC (voteN n.txn 8)) rfl rfl rfl rfl rfl (fun bE => ?_)
                    refine Q.r ?_; (repeat (intro b1; refine Q.r ?_))
                    repeat (first | refine D.endA ?_ | refine Q.dy rfl rfl rfl ?_ | refine Q.dp rfl rfl rfl ?_ | refine D.end_ ?_ | refine Q.endH ?_ | (refine D.e rfl rfl rfl ?_; (first | refine S.gskip1 rfl ?_ | refine S.gskip rfl ?_ | refine S.y (Y.gskipU rfl) ?_); refine opsS_nil ?_; refine N.tn ?_))
                    refine D.e rfl rfl rfl ?_
                    refine S.bs1 (cs := (⟨12, n.txn, 0, 0, n.after, 0, 0, 0, 0, 0, 0, 0, n.pa, n.pc, n.parts, n.oa, n.oc, n.ops, none, 0, [], none, 0, []⟩ : NV).cells) rfl rfl rfl rfl rfl (fun bR => ?_)
                    refine Q.r ?_; (repeat (intro b1; refine Q.r ?_))
                    repeat (first | refine D.endA ?_ | refine Q.dy rfl rfl rfl ?_ | refine Q.dp rfl rfl rfl ?_ | refine D.end_ ?_ | refine Q.endH ?_ | (refine D.e rfl rfl rfl ?_; (first | refine S.gskip1 rfl ?_ | refine S.gskip rfl ?_ | refine S.y (Y.gskipU rfl) ?_); refine opsS_nil ?_; refine N.tn ?_))
                    refine Q.rd ?_; (repeat (intro b1; refine Q.rd ?_))
                    refine Q.r ?_; (repeat (intro b1; refine Q.r ?_))
                    refine N.r1 (by apply RV.cellN; rfl; exact RdC.row; rfl; exact RV.nil) ?_ ⟨some ⟨bR, 0, none⟩, 1, some ⟨bM, 0, none⟩, 1, some ⟨bE, 0, none⟩, 1, rfl, rfl⟩; show Ent _ (slO 36 16 (some ⟨bR, 0, none⟩) 1 1 (⟨12, n.txn, 0, 0, n.after, 0, 0, 0, 0, 0, 0, 0, n.pa, n.pc, n.parts, n.oa, n.oc, n.ops, none, 0, [], none, 0, []⟩ : NV).cells :: slO 135 17 (some ⟨bM, 0, none⟩) 1 1 (mailC (voteN n.txn 0)) :: slO 135 17 (some ⟨bE, 0, none⟩) 1 1 (mailC (voteN n.txn 8)) :: rjH p j :: roM M0 :: L); refine Ent.trans (rjc (p := p) (v := v) (sf := sf) (pa := pa) (pc := pc) (ps := ps) (da := da) (dc := dc) (ds := ds) (a := a) (a' := a') (c := c) (c' := c') (es := es) (is := is) hq hok) ?_; exact Go.SX.Ent.go
                · refine S.bs1 (cs := mailC (voteN n.txn 8)) rfl rfl rfl rfl rfl (fun bE => ?_)
                  refine Q.r ?_; (repeat (intro b1; refine Q.r ?_))
                  repeat (first | refine D.endA ?_ | refine Q.dy rfl rfl rfl ?_ | refine Q.dp rfl rfl rfl ?_ | refine D.end_ ?_ | refine Q.endH ?_ | (refine D.e rfl rfl rfl ?_; (first | refine S.gskip1 rfl ?_ | refine S.gskip rfl ?_ | refine S.y (Y.gskipU rfl) ?_); refine opsS_nil ?_; refine N.tn ?_))
                  refine D.two 9 13 [13, 18, 19] [9, 18, 19] (by kernel_rfl) rfl rfl rfl rfl (by kernel_rfl) (by kernel_rfl) ?_ ?_
                  · refine S.bs1 (cs := (⟨12, n.txn, 0, 0, n.after, 0, 0, 0, 0, 0, 0, 0, n.pa, n.pc, n.parts, n.oa, n.oc, n.ops, none, 0, [], none, 0, []⟩ : NV).cells) rfl rfl rfl rfl rfl (fun bR => ?_)
                    refine Q.r ?_; (repeat (intro b1; refine Q.r ?_))
                    repeat (first | refine D.endA ?_ | refine Q.dy rfl rfl rfl ?_ | refine Q.dp rfl rfl rfl ?_ | refine D.end_ ?_ | refine Q.endH ?_ | (refine D.e rfl rfl rfl ?_; (first | refine S.gskip1 rfl ?_ | refine S.gskip rfl ?_ | refine S.y (Y.gskipU rfl) ?_); refine opsS_nil ?_; refine N.tn ?_))
                    refine D.e rfl rfl rfl ?_
                    refine S.bs1 (cs := mailC (voteN n.txn 0)) rfl rfl rfl rfl rfl (fun bM => ?_)
                    refine Q.r ?_; (repeat (intro b1; refine Q.r ?_))
                    repeat (first | refine D.endA ?_ | refine Q.dy rfl rfl rfl ?_ | refine Q.dp rfl rfl rfl ?_ | refine D.end_ ?_ | refine Q.endH ?_ | (refine D.e rfl rfl rfl ?_; (first | refine S.gskip1 rfl ?_ | refine S.gskip rfl ?_ | refine S.y (Y.gskipU rfl) ?_); refine opsS_nil ?_; refine N.tn ?_))
                    refine Q.rd ?_; (repeat (intro b1; refine Q.rd ?_))
                    refine Q.r ?_; (repeat (intro b1; refine Q.r ?_))
                    refine N.r1 (by apply RV.cellN; rfl; exact RdC.row; rfl; exact RV.nil) ?_ ⟨some ⟨bR, 0, none⟩, 1, some ⟨bM, 0, none⟩, 1, some ⟨bE, 0, none⟩, 1, rfl, rfl⟩; show Ent _ (slO 36 16 (some ⟨bR, 0, none⟩) 1 1 (⟨12, n.txn, 0, 0, n.after, 0, 0, 0, 0, 0, 0, 0, n.pa, n.pc, n.parts, n.oa, n.oc, n.ops, none, 0, [], none, 0, []⟩ : NV).cells :: slO 135 17 (some ⟨bM, 0, none⟩) 1 1 (mailC (voteN n.txn 0)) :: slO 135 17 (some ⟨bE, 0, none⟩) 1 1 (mailC (voteN n.txn 8)) :: rjH p j :: roM M0 :: L); refine Ent.trans (rjc (p := p) (v := v) (sf := sf) (pa := pa) (pc := pc) (ps := ps) (da := da) (dc := dc) (ds := ds) (a := a) (a' := a') (c := c) (c' := c') (es := es) (is := is) hq hok) ?_; exact Go.SX.Ent.go
                  · refine S.bs1 (cs := mailC (voteN n.txn 0)) rfl rfl rfl rfl rfl (fun bM => ?_)
                    refine Q.r ?_; (repeat (intro b1; refine Q.r ?_))
                    repeat (first | refine D.endA ?_ | refine Q.dy rfl rfl rfl ?_ | refine Q.dp rfl rfl rfl ?_ | refine D.end_ ?_ | refine Q.endH ?_ | (refine D.e rfl rfl rfl ?_; (first | refine S.gskip1 rfl ?_ | refine S.gskip rfl ?_ | refine S.y (Y.gskipU rfl) ?_); refine opsS_nil ?_; refine N.tn ?_))
                    refine D.e rfl rfl rfl ?_
                    refine S.bs1 (cs := (⟨12, n.txn, 0, 0, n.after, 0, 0, 0, 0, 0, 0, 0, n.pa, n.pc, n.parts, n.oa, n.oc, n.ops, none, 0, [], none, 0, []⟩ : NV).cells) rfl rfl rfl rfl rfl (fun bR => ?_)
                    refine Q.r ?_; (repeat (intro b1; refine Q.r ?_))
                    repeat (first | refine D.endA ?_ | refine Q.dy rfl rfl rfl ?_ | refine Q.dp rfl rfl rfl ?_ | refine D.end_ ?_ | refine Q.endH ?_ | (refine D.e rfl rfl rfl ?_; (first | refine S.gskip1 rfl ?_ | refine S.gskip rfl ?_ | refine S.y (Y.gskipU rfl) ?_); refine opsS_nil ?_; refine N.tn ?_))
                    refine Q.rd ?_; (repeat (intro b1; refine Q.rd ?_))
                    refine Q.r ?_; (repeat (intro b1; refine Q.r ?_))
                    refine N.r1 (by apply RV.cellN; rfl; exact RdC.row; rfl; exact RV.nil) ?_ ⟨some ⟨bR, 0, none⟩, 1, some ⟨bM, 0, none⟩, 1, some ⟨bE, 0, none⟩, 1, rfl, rfl⟩; show Ent _ (slO 36 16 (some ⟨bR, 0, none⟩) 1 1 (⟨12, n.txn, 0, 0, n.after, 0, 0, 0, 0, 0, 0, 0, n.pa, n.pc, n.parts, n.oa, n.oc, n.ops, none, 0, [], none, 0, []⟩ : NV).cells :: slO 135 17 (some ⟨bM, 0, none⟩) 1 1 (mailC (voteN n.txn 0)) :: slO 135 17 (some ⟨bE, 0, none⟩) 1 1 (mailC (voteN n.txn 8)) :: rjH p j :: roM M0 :: L); refine Ent.trans (rjc (p := p) (v := v) (sf := sf) (pa := pa) (pc := pc) (ps := ps) (da := da) (dc := dc) (ds := ds) (a := a) (a' := a') (c := c) (c' := c') (es := es) (is := is) hq hok) ?_; exact Go.SX.Ent.go
    · rw [if_neg hf]
      refine Q.r ?_; (repeat (intro b1; refine Q.r ?_))
      refine N.r1 (by apply RV.cellN; rfl; exact RdC.row; rfl; exact RV.nil) ?_ ⟨none, 0, none, 0, none, 0, rfl, rfl⟩; show Ent _ (qR :: qM :: qM :: rjH p j :: roM M0 :: L); refine Ent.trans (rjc (p := p) (v := v) (sf := sf) (pa := pa) (pc := pc) (ps := ps) (da := da) (dc := dc) (ds := ds) (a := a) (a' := a') (c := c) (c' := c') (es := es) (is := is) hq hok) ?_; exact Go.SX.Ent.go
  rw [if_neg h3]
  by_cases h5 : n.kind = 5
  · rw [if_pos h5]
    unfold deciV
    by_cases hc : n.code = 0
    · rw [if_neg (fun h => h hc)]
      cases hd : lkL j.done n.txn with
      | some s =>
        have hs := hj.p _ _ hd
        dsimp only [Option.getD_some]
        by_cases he : s = n.stamp
        · rw [if_pos he]
          refine Q.r ?_; (repeat (intro b1; refine Q.r ?_))
          refine N.r1 (by apply RV.cellN; rfl; exact RdC.row; rfl; exact RV.nil) ?_ ⟨none, 0, some ⟨b1, 0, none⟩, 1, none, 0, rfl, rfl⟩; show Ent _ (qR :: slO 135 17 (some ⟨b1, 0, none⟩) 1 1 (mailC (ackN n.txn)) :: qM :: rjH p j :: roM M0 :: L); refine Ent.nilS ?_; refine Ent.trans ?_ (slO_fold rfl); refine Ent.trans (rjc (p := p) (v := v) (sf := sf) (pa := pa) (pc := pc) (ps := ps) (da := da) (dc := dc) (ds := ds) (a := a) (a' := a') (c := c) (c' := c') (es := es) (is := is) hq hok) ?_; exact Go.SX.Ent.go
        · rw [if_neg he]
          refine Q.r ?_; (repeat (intro b1; refine Q.r ?_))
          refine N.r1 (by apply RV.cellN; rfl; exact RdC.row; rfl; exact RV.nil) ?_ ⟨none, 0, none, 0, none, 0, rfl, rfl⟩; show Ent _ (qR :: qM :: qM :: rjH p j :: roM M0 :: L); refine Ent.trans (rjc (p := p) (v := v) (sf := sf) (pa := pa) (pc := pc) (ps := ps) (da := da) (dc := dc) (ds := ds) (a := a) (a' := a') (c := c) (c' := c') (es := es) (is := is) hq hok) ?_; exact Go.SX.Ent.go
      | none =>
        dsimp only [Option.getD_none]
        rcases hz with ⟨ki, i, rfl, hi, hit, hlk⟩ | ⟨rfl, hlk⟩
        · rw [hlk]
          dsimp only
          have hki : ki < is.length := (List.getElem?_eq_some_iff.1 hi).1
          have hmi : i ∈ is := List.mem_of_getElem? hi
          have hio := hopl i hmi
          obtain ⟨bi, oi, hia, cr⟩ := SlM.cm (g := IV.cells) (fun _ => rfl) hok.sI hi rfl
          by_cases g1 : i.after < n.stamp
          · by_cases g2 : j.v.mark < n.stamp
            · rw [hia]
              refine Q.r ?_; (repeat (intro b1; refine Q.r ?_))
              revert b1
              intro bA
              refine D.start [] [] [0, 1, 2, 3, 4, 5, 6, 7, 8, 9, 10, 11, 12, 13, 14, 15, 16, 17, 18, 19, 20, 21, 22, 23, 24, 25, 26, 27, 28, 29] _ [] rfl (by kernel_rfl) rfl (by kernel_rfl) NoPanic.no (Ent.refl _) ?_
              repeat (first | refine Q.dyn rfl rfl rfl ?_ | refine Q.dyl rfl rfl rfl ?_ | refine D.y rfl rfl rfl (by kernel_rfl) (by first | exact (Y.ldRj rfl (by first | assumption | exact RdC.sub (by assumption)) rfl) | exact Y.guard rfl (Y.ldRj rfl (by first | assumption | exact RdC.sub (by assumption)) rfl)) ?_ | refine D.endA ?_ | refine Q.dp rfl rfl rfl ?_ | refine Q.dy rfl rfl rfl ?_ | refine D.end_ ?_ | refine Q.endH ?_ | (refine D.e rfl rfl rfl ?_; (first | refine S.gskip1 rfl ?_ | refine S.gskip rfl ?_ | refine S.y (Y.gskipU rfl) ?_); refine opsS_nil ?_; refine N.tn ?_) | refine Q.dT rfl rfl rfl ?_ | refine Q.dF rfl rfl rfl ?_ | (refine D.e rfl rfl rfl ?_; (first | (refine GQ.a ?_; refine Q.al (fun b1 => ?_)) | (refine GQ.s ?_; refine Q.st ?_)); refine opsS_nil ?_; refine N.tn ?_))
              refine Q.r ?_; (repeat (intro b1; refine Q.r ?_))
              rw [← hia]
              have hio2 : ∀ o ∈ i.ops, (chV j.v.ch o.id).length ≤ 10000 := fun o _ => by
                unfold chV
                cases hz : lkL j.v.ch o.id with
                | none => exact Nat.zero_le _
                | some w => exact Nat.le_trans (hj.w.wf.co _ (lk_memL hz)).2.1 hk
              refine swp_cutB (σ := Unit) (fun _ => [(5, .pointer (some ⟨b0, 0, none⟩)), (6, .pointer (some ⟨bp, 0, none⟩)), (13, .slice (some ⟨bA, 0, none⟩) 1 1)]) (fun _ => pt bA (cl (mailC (ackN n.txn)) 135) :: pt bp (cl [.slice none 0 0, .slice none 0 0, .slice none 0 0] 97) :: pt b0 (cl n.cells 36) :: rjP p sf v pa ps pc da ds dc :: rP v j.v.dim a es c a' is c' j.v.mark :: roM Mv :: roM M :: roM M0 :: L) (fun _ => (i.ops.any fun o => (chV j.v.ch o.id).any fun v => decide (n.stamp ≤ v.1)) = false) ?_ ?_
              · refine swp_loop (σ := Nat) (fun m => [(0, .pointer (some ⟨p, 0, none⟩)), (5, .pointer (some ⟨b0, 0, none⟩)), (6, .pointer (some ⟨bp, 0, none⟩)), (13, .slice (some ⟨bA, 0, none⟩) 1 1), (195, .slice i.a i.ops.length i.c), (196, .int .i64 i.ops.length), (197, .int .i64 m)])
                  (fun _ => pt bA (cl (mailC (ackN n.txn)) 135) :: pt bp (cl [.slice none 0 0, .slice none 0 0, .slice none 0 0] 97) :: pt b0 (cl n.cells 36) :: rjP p sf v pa ps pc da ds dc :: rP v j.v.dim a es c a' is c' j.v.mark :: roM Mv :: roM M :: roM M0 :: L)
                  (fun m => m ≤ i.ops.length ∧ ((i.ops.take m).any fun o => (chV j.v.ch o.id).any fun v => decide (n.stamp ≤ v.1)) = false) (fun m => i.ops.length - m) 0 ⟨rfl, rfl, rfl, rfl, rfl, rfl, rfl, trivial⟩ (by exact Go.SX.Ent.go) ⟨by omega, by simp⟩ ?_
                rintro m ⟨hm1, hm2⟩
                by_cases hmt : m < i.ops.length
                · obtain ⟨o, ho⟩ := mem_get hmt
                  have hmo : o ∈ i.ops := List.mem_of_getElem? ho
                  have hcl2 := hio2 o hmo
                  obtain ⟨bo, oo, hoa, cro⟩ := SlM.cm (g := OV.cells) (fun _ => rfl) (hok.oi i hmi).1 ho rfl
                  rw [hoa]
                  refine Q.r ?_; (repeat (intro b1; refine Q.r ?_))
                  refine Q.dgo [true, true, true, true, true] [6] [] [0, 1, 2, 3, 4, 5, 8, 6, 7] ?_
                  refine Q.rd ?_; (repeat (intro b1; refine Q.rd ?_))
                  refine D.e rfl rfl rfl ?_
                  refine S.cr rfl (RChain_spec v j.v.dim a es c a' is c' j.v.mark o.id Mv _ hok.sE (by omega)) ?_
                  rintro w _ ⟨hv, rfl⟩
                  obtain ⟨ca, cc, vs, rfl, hcs, hvs⟩ : ∃ (ca : Option Addr) (cc : Nat) (vs : List OV), w = .slice ca vs.length cc ∧ SlM Mv ca vs.length 2 (vs.flatMap OV.cells) ∧ vs.map OV.abs = chV j.v.ch o.id := by
                    rcases hv with ⟨e, he, hid, rfl⟩ | ⟨rfl, hno⟩
                    · refine ⟨_, _, _, rfl, (hok.oe e he).1, ?_⟩
                      unfold chV
                      rw [← hid, (lkL_iff hok.k1).2 (hok.ch.mem_iff.1 (List.mem_map_of_mem (f := EV.abs) he))]; rfl
                    · refine ⟨none, 0, [], rfl, SlM.nil0, ?_⟩
                      unfold chV
                      rw [← lkL_perm hok.k1 hok.ch, lkL_none (fun u hu => by obtain ⟨e, he, rfl⟩ := List.mem_map.1 hu; exact hno e he)]; rfl
                  have hvl : vs.length ≤ 10000 := by rw [← hvs, List.length_map] at hcl2; exact hcl2
                  have hst : ((chV j.v.ch o.id).any fun v => decide (n.stamp ≤ v.1)) = vs.any fun v => decide (n.stamp ≤ v.id) := by rw [← hvs, List.any_map]; rfl
                  clear hv cro
                  refine Q.r ?_; (repeat (intro b1; refine Q.r ?_))
                  refine Q.rd ?_; (repeat (intro b1; refine Q.rd ?_))
                  refine Q.r ?_; (repeat (intro b1; refine Q.r ?_))
                  refine swp_loop (σ := Nat) (fun q => [(0, .pointer (some ⟨p, 0, none⟩)), (5, .pointer (some ⟨b0, 0, none⟩)), (6, .pointer (some ⟨bp, 0, none⟩)), (13, .slice (some ⟨bA, 0, none⟩) 1 1), (195, .slice (some ⟨bo, oo, none⟩) i.ops.length i.c), (196, .int .i64 i.ops.length), (197, .int .i64 m), (207, .slice ca vs.length cc), (208, .int .i64 vs.length), (209, .int .i64 q)])
                    (fun _ => pt bA (cl (mailC (ackN n.txn)) 135) :: pt bp (cl [.slice none 0 0, .slice none 0 0, .slice none 0 0] 97) :: pt b0 (cl n.cells 36) :: rjP p sf v pa ps pc da ds dc :: rP v j.v.dim a es c a' is c' j.v.mark :: roM Mv :: roM M :: roM M0 :: L)
                    (fun q => q ≤ vs.length ∧ ((vs.take q).any fun v => decide (n.stamp ≤ v.id)) = false) (fun q => vs.length - q) 0 ⟨rfl, rfl, rfl, rfl, rfl, rfl, rfl, rfl, rfl, rfl, trivial⟩ (by exact Go.SX.Ent.go) ⟨by omega, by simp⟩ ?_
                  rintro q ⟨hq1, hq2⟩
                  by_cases hqt : q < vs.length
                  · obtain ⟨y, hy⟩ := mem_get hqt
                    have hmy : y ∈ vs := List.mem_of_getElem? hy
                    obtain ⟨by_, oy, hya, cry⟩ := SlM.cm (g := OV.cells) (fun _ => rfl) hcs hy rfl
                    rw [hya]
                    by_cases hle : n.stamp ≤ y.id
                    · refine Q.r ?_; (repeat (intro b1; refine Q.r ?_))
                      have hab : aboveV j.v n.stamp (i.ops.map OV.abs) = false := by
                        rw [above_ref hj.w hj.ne, List.any_map]
                        have : (i.ops.any ((fun o => (chV j.v.ch o.1).any fun v => decide (n.stamp ≤ v.1)) ∘ OV.abs)) = true := List.any_eq_true.2 ⟨o, hmo, by show ((chV j.v.ch o.id).any fun v => decide (n.stamp ≤ v.1)) = true; rw [hst]; exact List.any_eq_true.2 ⟨y, hmy, decide_eq_true hle⟩⟩
                        rw [this]; rfl
                      rw [if_neg (fun h => by have := h.2; rw [show aboveV j.v n.abs.stamp (i.ops.map OV.abs) = false from hab] at this; cases this)]
                      refine N.r1 (by apply RV.cellN; rfl; exact RdC.row; rfl; exact RV.nil) ?_ ⟨none, 0, none, 0, none, 0, rfl, rfl⟩; show Ent _ (qR :: qM :: qM :: rjH p j :: roM M0 :: L); refine Ent.trans (rjc (p := p) (v := v) (sf := sf) (pa := pa) (pc := pc) (ps := ps) (da := da) (dc := dc) (ds := ds) (a := a) (a' := a') (c := c) (c' := c') (es := es) (is := is) hq hok) ?_; exact Go.SX.Ent.go
                    · refine Q.r ?_; (repeat (intro b1; refine Q.r ?_))
                      refine ⟨q + 1, ⟨rfl, rfl, rfl, rfl, rfl, rfl, rfl, by rw [← hya]; rfl, rfl, rfl, trivial⟩, by exact Go.SX.Ent.go, ⟨by omega, ?_⟩, by omega⟩
                      rw [take_snoc hy, List.any_append, hq2, List.any_cons, decide_eq_false hle]; rfl
                  · have hqe : q = vs.length := by omega
                    subst hqe
                    rw [List.take_length] at hq2
                    refine Q.r ?_; (repeat (intro b1; refine Q.r ?_))
                    refine ⟨m + 1, ⟨rfl, rfl, rfl, rfl, rfl, rfl, rfl, trivial⟩, by exact Go.SX.Ent.go, ⟨by omega, ?_⟩, by omega⟩
                    rw [take_snoc ho, List.any_append, hm2, List.any_cons, hst, hq2]; rfl
                · have hme : m = i.ops.length := by omega
                  subst hme
                  rw [List.take_length] at hm2
                  refine Q.r ?_; (repeat (intro b1; refine Q.r ?_))
                  exact ⟨(), ⟨rfl, rfl, rfl, trivial⟩, by exact Go.SX.Ent.go, hm2⟩
              · intro _ hall
                have hab : aboveV j.v n.stamp (i.ops.map OV.abs) = true := by
                  rw [above_ref hj.w hj.ne, List.any_map]
                  have : (i.ops.any ((fun o => (chV j.v.ch o.1).any fun v => decide (n.stamp ≤ v.1)) ∘ OV.abs)) = false := hall
                  rw [this]; rfl
                rw [if_pos ⟨show max i.after j.v.mark < n.stamp by omega, hab⟩]
                refine Q.r ?_; (repeat (intro b1; refine Q.r ?_))
                refine N.r1 (by apply RV.cellN; rfl; exact RdC.row; rfl; exact RV.nil) ?_ ⟨some ⟨b1, 0, none⟩, 1, some ⟨bA, 0, none⟩, 1, none, 0, rfl, rfl⟩
                show Ent _ (slO 36 16 (some ⟨b1, 0, none⟩) 1 1 (comN n.txn n.stamp).nv.cells :: slO 135 17 (some ⟨bA, 0, none⟩) 1 1 (mailC (ackN n.txn)) :: qM :: rjH p j :: roM M0 :: L)
                refine Ent.trans ?_ (slO_fold rfl)
                refine Ent.trans ?_ (Ent.cons (slO_fold rfl))
                refine Ent.trans (rjc (p := p) (v := v) (sf := sf) (pa := pa) (pc := pc) (ps := ps) (da := da) (dc := dc) (ds := ds) (a := a) (a' := a') (c := c) (c' := c') (es := es) (is := is) hq hok) ?_
                exact Go.SX.Ent.go
            · rw [if_neg (fun h => absurd h.1 (show ¬ max i.after j.v.mark < n.stamp by omega)), hia]
              refine Q.r ?_; (repeat (intro b1; refine Q.r ?_))
              refine D.start [] [] [0, 1, 2, 3, 4, 5, 6, 7, 8, 9, 10, 11, 12, 13, 14, 15, 16, 17, 18, 19, 20, 21, 22, 23, 24, 25, 26, 27, 28, 29] _ [] rfl (by kernel_rfl) rfl (by kernel_rfl) NoPanic.no (Ent.refl _) ?_
              repeat (first | refine Q.dyn rfl rfl rfl ?_ | refine Q.dyl rfl rfl rfl ?_ | refine D.y rfl rfl rfl (by kernel_rfl) (by first | exact (Y.ldRj rfl (by first | assumption | exact RdC.sub (by assumption)) rfl) | exact Y.guard rfl (Y.ldRj rfl (by first | assumption | exact RdC.sub (by assumption)) rfl)) ?_ | refine D.endA ?_ | refine Q.dp rfl rfl rfl ?_ | refine Q.dy rfl rfl rfl ?_ | refine D.end_ ?_ | refine Q.endH ?_ | (refine D.e rfl rfl rfl ?_; (first | refine S.gskip1 rfl ?_ | refine S.gskip rfl ?_ | refine S.y (Y.gskipU rfl) ?_); refine opsS_nil ?_; refine N.tn ?_) | refine Q.dT rfl rfl rfl ?_ | refine Q.dF rfl rfl rfl ?_ | (refine D.e rfl rfl rfl ?_; (first | (refine GQ.a ?_; refine Q.al (fun b1 => ?_)) | (refine GQ.s ?_; refine Q.st ?_)); refine opsS_nil ?_; refine N.tn ?_))
              refine Q.r ?_; (repeat (intro b1; refine Q.r ?_))
              rw [← hia]
              refine N.r1 (by apply RV.cellN; rfl; exact RdC.row; rfl; exact RV.nil) ?_ ⟨none, 0, none, 0, none, 0, rfl, rfl⟩; show Ent _ (qR :: qM :: qM :: rjH p j :: roM M0 :: L); refine Ent.trans (rjc (p := p) (v := v) (sf := sf) (pa := pa) (pc := pc) (ps := ps) (da := da) (dc := dc) (ds := ds) (a := a) (a' := a') (c := c) (c' := c') (es := es) (is := is) hq hok) ?_; exact Go.SX.Ent.go
          · rw [if_neg (fun h => absurd h.1 (show ¬ max i.after j.v.mark < n.stamp by omega)), hia]
            refine Q.r ?_; (repeat (intro b1; refine Q.r ?_))
            refine D.start [] [] [0, 1, 2, 3, 4, 5, 6, 7, 8, 9, 10, 11, 12, 13, 14, 15, 16, 17, 18, 19, 20, 21, 22, 23, 24, 25, 26, 27, 28, 29] _ [] rfl (by kernel_rfl) rfl (by kernel_rfl) NoPanic.no (Ent.refl _) ?_
            repeat (first | refine Q.dyn rfl rfl rfl ?_ | refine Q.dyl rfl rfl rfl ?_ | refine D.y rfl rfl rfl (by kernel_rfl) (by first | exact (Y.ldRj rfl (by first | assumption | exact RdC.sub (by assumption)) rfl) | exact Y.guard rfl (Y.ldRj rfl (by first | assumption | exact RdC.sub (by assumption)) rfl)) ?_ | refine D.endA ?_ | refine Q.dp rfl rfl rfl ?_ | refine Q.dy rfl rfl rfl ?_ | refine D.end_ ?_ | refine Q.endH ?_ | (refine D.e rfl rfl rfl ?_; (first | refine S.gskip1 rfl ?_ | refine S.gskip rfl ?_ | refine S.y (Y.gskipU rfl) ?_); refine opsS_nil ?_; refine N.tn ?_) | refine Q.dT rfl rfl rfl ?_ | refine Q.dF rfl rfl rfl ?_ | (refine D.e rfl rfl rfl ?_; (first | (refine GQ.a ?_; refine Q.al (fun b1 => ?_)) | (refine GQ.s ?_; refine Q.st ?_)); refine opsS_nil ?_; refine N.tn ?_))
            refine Q.r ?_; (repeat (intro b1; refine Q.r ?_))
            rw [← hia]
            refine N.r1 (by apply RV.cellN; rfl; exact RdC.row; rfl; exact RV.nil) ?_ ⟨none, 0, none, 0, none, 0, rfl, rfl⟩; show Ent _ (qR :: qM :: qM :: rjH p j :: roM M0 :: L); refine Ent.trans (rjc (p := p) (v := v) (sf := sf) (pa := pa) (pc := pc) (ps := ps) (da := da) (dc := dc) (ds := ds) (a := a) (a' := a') (c := c) (c' := c') (es := es) (is := is) hq hok) ?_; exact Go.SX.Ent.go
        · rw [hlk]
          refine Q.r ?_; (repeat (intro b1; refine Q.r ?_))
          refine D.start [] [] [0, 1, 2, 3, 4, 5, 6, 7, 8, 9, 10, 11, 12, 13, 14, 15, 16, 17, 18, 19, 20, 21, 22, 23, 24, 25, 26, 27, 28, 29] _ [] rfl (by kernel_rfl) rfl (by kernel_rfl) NoPanic.no (Ent.refl _) ?_
          repeat (first | refine Q.dyn rfl rfl rfl ?_ | refine Q.dyl rfl rfl rfl ?_ | refine D.y rfl rfl rfl (by kernel_rfl) (by first | exact (Y.ldRj rfl (by first | assumption | exact RdC.sub (by assumption)) rfl) | exact Y.guard rfl (Y.ldRj rfl (by first | assumption | exact RdC.sub (by assumption)) rfl)) ?_ | refine D.endA ?_ | refine Q.dp rfl rfl rfl ?_ | refine Q.dy rfl rfl rfl ?_ | refine D.end_ ?_ | refine Q.endH ?_ | (refine D.e rfl rfl rfl ?_; (first | refine S.gskip1 rfl ?_ | refine S.gskip rfl ?_ | refine S.y (Y.gskipU rfl) ?_); refine opsS_nil ?_; refine N.tn ?_) | refine Q.dT rfl rfl rfl ?_ | refine Q.dF rfl rfl rfl ?_ | (refine D.e rfl rfl rfl ?_; (first | (refine GQ.a ?_; refine Q.al (fun b1 => ?_)) | (refine GQ.s ?_; refine Q.st ?_)); refine opsS_nil ?_; refine N.tn ?_))
          refine Q.r ?_; (repeat (intro b1; refine Q.r ?_))
          refine N.r1 (by apply RV.cellN; rfl; exact RdC.row; rfl; exact RV.nil) ?_ ⟨none, 0, none, 0, none, 0, rfl, rfl⟩; show Ent _ (qR :: qM :: qM :: rjH p j :: roM M0 :: L); refine Ent.trans (rjc (p := p) (v := v) (sf := sf) (pa := pa) (pc := pc) (ps := ps) (da := da) (dc := dc) (ds := ds) (a := a) (a' := a') (c := c) (c' := c') (es := es) (is := is) hq hok) ?_; exact Go.SX.Ent.go
    · rw [if_pos hc]
      rcases hz with ⟨ki, i, rfl, hi, hit, hlk⟩ | ⟨rfl, hlk⟩
      · have hsm : (lkL j.v.its n.txn).isSome = true := by rw [hlk]; rfl
        by_cases hf : fr = 0
        · rw [if_pos ⟨hsm, hf⟩]
          refine Q.r ?_; (repeat (intro b1; refine Q.r ?_))
          refine N.r1 (by apply RV.cellN; rfl; exact RdC.row; rfl; exact RV.nil) ?_ ⟨some ⟨b1, 0, none⟩, 1, none, 0, none, 0, rfl, rfl⟩; show Ent _ (slO 36 16 (some ⟨b1, 0, none⟩) 1 1 (aboN n.txn).nv.cells :: qM :: qM :: rjH p j :: roM M0 :: L); refine Ent.trans ?_ (slO_fold rfl); refine Ent.trans (rjc (p := p) (v := v) (sf := sf) (pa := pa) (pc := pc) (ps := ps) (da := da) (dc := dc) (ds := ds) (a := a) (a' := a') (c := c) (c' := c') (es := es) (is := is) hq hok) ?_; exact Go.SX.Ent.go
        · rw [if_neg (fun h => hf h.2)]
          refine Q.r ?_; (repeat (intro b1; refine Q.r ?_))
          refine N.r1 (by apply RV.cellN; rfl; exact RdC.row; rfl; exact RV.nil) ?_ ⟨none, 0, none, 0, none, 0, rfl, rfl⟩; show Ent _ (qR :: qM :: qM :: rjH p j :: roM M0 :: L); refine Ent.trans (rjc (p := p) (v := v) (sf := sf) (pa := pa) (pc := pc) (ps := ps) (da := da) (dc := dc) (ds := ds) (a := a) (a' := a') (c := c) (c' := c') (es := es) (is := is) hq hok) ?_; exact Go.SX.Ent.go
      · have hsm : ¬ (lkL j.v.its n.txn).isSome = true := by rw [hlk]; decide
        rw [if_neg (fun h => hsm h.1)]
        refine Q.r ?_; (repeat (intro b1; refine Q.r ?_))
        refine N.r1 (by apply RV.cellN; rfl; exact RdC.row; rfl; exact RV.nil) ?_ ⟨none, 0, none, 0, none, 0, rfl, rfl⟩; show Ent _ (qR :: qM :: qM :: rjH p j :: roM M0 :: L); refine Ent.trans (rjc (p := p) (v := v) (sf := sf) (pa := pa) (pc := pc) (ps := ps) (da := da) (dc := dc) (ds := ds) (a := a) (a' := a') (c := c) (c' := c') (es := es) (is := is) hq hok) ?_; exact Go.SX.Ent.go
  rw [if_neg h5]
  by_cases h7 : n.kind = 7
  · rw [if_pos h7]
    cases hd : lkL j.done n.txn with
    | some s =>
      have hs := hj.p _ _ hd
      dsimp only [Option.getD_some]
      refine Q.r ?_; (repeat (intro b1; refine Q.r ?_))
      refine N.r1 (by apply RV.cellN; rfl; exact RdC.row; rfl; exact RV.nil) ?_ ⟨none, 0, some ⟨b1, 0, none⟩, 1, none, 0, rfl, rfl⟩; show Ent _ (qR :: slO 135 17 (some ⟨b1, 0, none⟩) 1 1 (mailC ((fr, { NA.zero with kind := 5, txn := n.txn, stamp := s }))) :: qM :: rjH p j :: roM M0 :: L); refine Ent.nilS ?_; refine Ent.trans ?_ (slO_fold rfl); refine Ent.trans (rjc (p := p) (v := v) (sf := sf) (pa := pa) (pc := pc) (ps := ps) (da := da) (dc := dc) (ds := ds) (a := a) (a' := a') (c := c) (c' := c') (es := es) (is := is) hq hok) ?_; exact Go.SX.Ent.go
    | none =>
      dsimp only [Option.getD_none]
      refine Q.r ?_; (repeat (intro b1; refine Q.r ?_))
      refine N.r1 (by apply RV.cellN; rfl; exact RdC.row; rfl; exact RV.nil) ?_ ⟨none, 0, none, 0, none, 0, rfl, rfl⟩; show Ent _ (qR :: qM :: qM :: rjH p j :: roM M0 :: L); refine Ent.trans (rjc (p := p) (v := v) (sf := sf) (pa := pa) (pc := pc) (ps := ps) (da := da) (dc := dc) (ds := ds) (a := a) (a' := a') (c := c) (c' := c') (es := es) (is := is) hq hok) ?_; exact Go.SX.Ent.go
  · rw [if_neg h7]
    refine Q.r ?_; (repeat (intro b1; refine Q.r ?_))
    refine N.r1 (by apply RV.cellN; rfl; exact RdC.row; rfl; exact RV.nil) ?_ ⟨none, 0, none, 0, none, 0, rfl, rfl⟩; show Ent _ (qR :: qM :: qM :: rjH p j :: roM M0 :: L); refine Ent.trans (rjc (p := p) (v := v) (sf := sf) (pa := pa) (pc := pc) (ps := ps) (da := da) (dc := dc) (ds := ds) (a := a) (a' := a') (c := c) (c' := c') (es := es) (is := is) hq hok) ?_; exact Go.SX.Ent.go
end Go.Proofs.YtjidejcehmamkaaGreatDoor
namespace Go.Proofs.YtjidejcehmamkaaGreatDoor
open Go Go.SX
attribute [local irreducible] swp opsS thenS blockS retS CallsS St Ent YieldS anyS drawS
section
variable {n : Nat} {ops rest : List Oper} {cd : Code} {Q : Post} {f : Env} {L L0 : List HP}
theorem swp_front (A : HP) [h : Pick A L L0] (hk : swp Tryz.prog n cd Q f (A :: L0)) : swp Tryz.prog n cd Q f L := swp_ent h.ent hk
end
theorem putL_perm {α : Type} {m : List (Int × α)} (h : keysOK m) (t : Int) (a : α) : (delL m t ++ [(t, a)]).Perm (putL m t a) := by
  rcases keyCase m h t with ⟨p, b, q, rfl, hp, hq⟩ | hn
  · rw [putL_mid hp hq]
    have e : delL (p ++ (t, b) :: q) t = p ++ q := by
      unfold delL
      rw [List.filter_append, List.filter_eq_self.2 (fun u hu => by simpa using hp u hu), List.filter_cons, if_neg (by simp), List.filter_eq_self.2 (fun u hu => by simpa using hq u hu)]
    rw [e, List.append_assoc]
    exact List.Perm.append_left p List.perm_append_comm
  · rw [putL_none hn, delL_none hn]
theorem insD_perm {ds done : List (Int × Int)} (hp : ds.Perm done) (hk : keysOK done) (d : Int × Int) : (insD ds d).Perm (putL done d.1 d.2) := by
  refine List.Perm.trans ?_ (putL_perm hk d.1 d.2)
  have h1 : (delL ds d.1).Perm (delL done d.1) := hp.filter _
  refine List.Perm.trans ?_ (h1.append_right _)
  unfold insD
  refine List.Perm.trans List.perm_middle ?_
  refine List.Perm.trans ?_ (List.perm_append_comm (l₁ := [(d.1, d.2)]))
  refine List.Perm.cons _ ?_
  have h2 : delL ds d.1 = ds.filter fun u => decide (u.1 < d.1) || decide (d.1 < u.1) := by
    unfold delL
    refine List.filter_congr fun u _ => ?_
    by_cases h : u.1 = d.1
    · simp [h]
    · simp [h]; omega
  rw [h2]
  clear h1 h2 hp
  induction ds with
  | nil => simp
  | cons u ds ih =>
    rw [List.filter_cons, List.filter_cons, List.filter_cons]
    by_cases h : u.1 < d.1
    · have h3 : ¬ d.1 < u.1 := by omega
      simp only [h, h3, decide_true, decide_false, Bool.true_or, if_true, List.cons_append]
      exact List.Perm.cons _ ih
    · by_cases h3 : d.1 < u.1
      · simp only [h, h3, decide_true, decide_false, Bool.or_true, if_true]
        exact List.Perm.trans List.perm_middle (List.Perm.cons _ ih)
      · simp only [h, h3, decide_false, Bool.or_false, if_false]
        exact ih
theorem insD_sorted {ds : List (Int × Int)} (hs : (ds.map (·.1)).Pairwise (· < ·)) (d : Int × Int) : ((insD ds d).map (·.1)).Pairwise (· < ·) := by
  unfold insD
  rw [List.map_append, List.map_cons, List.pairwise_append]
  refine ⟨pw_filter (key := fun u : Int × Int => u.1) hs _, ?_, ?_⟩
  · rw [List.pairwise_cons]
    refine ⟨fun x hx => ?_, pw_filter (key := fun u : Int × Int => u.1) hs _⟩
    obtain ⟨u, hu, rfl⟩ := List.mem_map.1 hx
    simpa using (List.mem_filter.1 hu).2
  · intro x hx y hy
    obtain ⟨u, hu, rfl⟩ := List.mem_map.1 hx
    have h1 : u.1 < d.1 := by simpa using (List.mem_filter.1 hu).2
    rcases List.mem_cons.1 hy with rfl | hy
    · exact h1
    · obtain ⟨w, hw, rfl⟩ := List.mem_map.1 hy
      have h2 : d.1 < w.1 := by simpa using (List.mem_filter.1 hw).2
      omega
theorem RJOK.setP {M M2 : Nat → Option Obj} {j j' : JS} {sf : Int} {pa pa2 : Option Addr} {pc pc2 : Nat} {ps : List QV} {da : Option Addr} {dc : Nat} {ds : List (Int × Int)} (h : RJOK M j sf pa pc ps da dc ds) (hl : leM M M2) {t : Int} {a5 : Option Addr} {c5 : Nat} {l : List Int} (h5 : SlM M2 a5 l.length 1 (l.map I64)) (hj : j'.parts = putL j.parts t l) (hd : j'.done = j.done)
    (hs : SlM M2 pa2 ((ps.filter fun u : QV => !decide (u.txn = t)) ++ [(⟨t, a5, c5, l⟩ : QV)]).length 2 (((ps.filter fun u => !decide (u.txn = t)) ++ [(⟨t, a5, c5, l⟩ : QV)]).flatMap QV.cells)) : RJOK M2 j' sf pa2 pc2 ((ps.filter fun u : QV => !decide (u.txn = t)) ++ [(⟨t, a5, c5, l⟩ : QV)]) da dc ds := by
  refine ⟨h.s1, h.s2, ?_, fun u hu => ?_, hs, hd ▸ h.dp, h.sd, h.dS.mono hl, h.dc, hj ▸ putL_ok h.kp _ _, hd ▸ h.kd⟩
  · rw [hj, List.map_append]
    refine List.Perm.trans (List.Perm.append_right _ ?_) (putL_perm h.kp t l)
    have := h.pp.filter (fun u : Int × List Int => !decide (u.1 = t))
    rw [List.filter_map] at this
    exact this
  · rcases List.mem_append.1 hu with hu | hu
    · exact (h.po u (List.mem_filter.1 hu).1).mono hl
    · rw [List.mem_singleton.1 hu]
      exact h5
theorem RJOK.delP {M M2 : Nat → Option Obj} {j j' : JS} {sf : Int} {pa pa2 : Option Addr} {pc pc2 : Nat} {ps : List QV} {da : Option Addr} {dc : Nat} {ds : List (Int × Int)} (h : RJOK M j sf pa pc ps da dc ds) (hl : leM M M2) {t : Int} (hj : j'.parts = delL j.parts t) (hd : j'.done = j.done)
    (hs : SlM M2 pa2 (ps.filter fun u => !decide (u.txn = t)).length 2 ((ps.filter fun u => !decide (u.txn = t)).flatMap QV.cells)) : RJOK M2 j' sf pa2 pc2 (ps.filter fun u => !decide (u.txn = t)) da dc ds := by
  refine ⟨h.s1, h.s2, ?_, fun u hu => (h.po u (List.mem_filter.1 hu).1).mono hl, hs, hd ▸ h.dp, h.sd, h.dS.mono hl, h.dc, hj ▸ delL_ok h.kp _, hd ▸ h.kd⟩
  rw [hj]
  have := h.pp.filter (fun u : Int × List Int => !decide (u.1 = t))
  rw [List.filter_map] at this
  exact this
theorem RJOK.putD {M M2 : Nat → Option Obj} {j j' : JS} {sf : Int} {pa : Option Addr} {pc : Nat} {ps : List QV} {da da2 : Option Addr} {dc dc2 : Nat} {ds : List (Int × Int)} (h : RJOK M j sf pa pc ps da dc ds) (hl : leM M M2) {d : Int × Int} (hj : j'.parts = j.parts) (hd : j'.done = putL j.done d.1 d.2)
    (hs : SlM M2 da2 (insD ds d).length 2 ((insD ds d).flatMap dC)) (hc : (insD ds d).length ≤ dc2) : RJOK M2 j' sf pa pc ps da2 dc2 (insD ds d) :=
  ⟨h.s1, h.s2, hj ▸ h.pp, fun u hu => (h.po u hu).mono hl, h.pS.mono hl, hd ▸ insD_perm h.dp h.kd d, insD_sorted h.sd d, hs, hc, hj ▸ h.kp, hd ▸ putL_ok h.kd _ _⟩
theorem RJOK.same {M : Nat → Option Obj} {j j' : JS} {sf : Int} {pa : Option Addr} {pc : Nat} {ps : List QV} {da : Option Addr} {dc : Nat} {ds : List (Int × Int)} (h : RJOK M j sf pa pc ps da dc ds) (hj : j'.parts = j.parts) (hd : j'.done = j.done) : RJOK M j' sf pa pc ps da dc ds :=
  ⟨h.s1, h.s2, hj ▸ h.pp, h.po, h.pS, hd ▸ h.dp, h.sd, h.dS, h.dc, hj ▸ h.kp, hd ▸ h.kd⟩
theorem rjclose2 {p v l : Nat} {sf : Int} {M : Nat → Option Obj} {j : JS} {pa : Option Addr} {pc : Nat} {ps : List QV} {da : Option Addr} {dc : Nat} {ds : List (Int × Int)} {L L0 L1 L2 : List HP} [h1 : Pick (pt p (cl [.int .i64 sf, ptrV v, .slice pa l pc, .slice da ds.length dc] 92)) L L0] [h2 : PickR v L0 j.v L1] [h3 : Pick (roM M) L1 L2] (hl : ps.length = l) (hq : RJOK M j sf pa pc ps da dc ds) : Ent L (rjH p j :: L2) := by
  subst hl
  exact Ent.trans h1.ent (Ent.trans (Ent.cons (Ent.trans h2.ent (Ent.cons h3.ent))) (rj_shut hq))
set_option maxHeartbeats 8000000 in
theorem RApp_spec (n : NV) (p : Nat) (j : JS) (k : Nat) (M0 : Nat → Option Obj) (L : List HP) (hj : JOW j k) (hk : k ≤ 10000) (hn : okN M0 n) (hN : OkN n) (hoc : n.ops.length ≤ n.oc) (hov : ∀ o ∈ n.ops, o.vec.length ≤ o.c) (u : NumA n.abs) :
    CallsS Tryz.prog 32 [.pointer (some ⟨p, 0, none⟩), n.val] (rjH p j :: roM M0 :: L) (fun r L' => r = .int .i64 (appE j n.abs) ∧ L' = rjH p (appS j n.abs) :: roM M0 :: L) := by
  have hdl : j.done.length ≤ 10000 := Nat.le_trans hj.dl hk
  have hpl : j.parts.length ≤ 10000 := Nat.le_trans hj.pl hk
  have hil : j.v.its.length ≤ 10000 := Nat.le_trans hj.w.wf.il hk
  have hno1 := hN.o
  have hnp1 := hN.p
  refine CallsS.of_body Tryz.func32 rfl rfl rfl ?_
  refine Q.r ?_; (repeat (intro b1; refine Q.r ?_))
  refine S.cr rfl (Right12_spec n _ hn.rd hN u) ?_
  rintro _ _ ⟨rfl, rfl⟩
  cases hr : rightN n.abs with
  | false =>
    have hE : appE j n.abs = 4 := by unfold appE; rw [hr, if_pos rfl]
    have hS : appS j n.abs = j := by unfold appS; rw [hE]; rfl
    rw [hE, hS]
    refine Q.r ?_; (repeat (intro b1; refine Q.r ?_))
    exact N.r1 (RV.tmp rfl RV.nil) (by exact Go.SX.Ent.go) ⟨rfl, rfl⟩
  | true =>
  by_cases h12 : n.kind = 12
  · have hE : appE j n.abs = lockE j.v n.txn n.after (n.ops.map OV.abs) := by
      unfold appE; rw [hr, if_neg (by decide), if_pos (show n.abs.kind = 12 from h12)]
    refine Q.r ?_; (repeat (intro b1; refine Q.r ?_))
    refine swp_rj p (fun v sf M pa pc ps da dc ds hq => ?_)
    have hpl2 : ps.length ≤ 10000 := by have := hq.pp.length_eq; rw [List.length_map] at this; omega
    have hfl : (ps.filter fun u : QV => !decide (u.txn = n.txn)).length ≤ ps.length := List.length_filter_le _ _
    refine Q.dgo [true, false, false, true] [11] [] [0, 1, 2, 3, 4, 5, 6, 7, 8, 9, 10, 11, 12] ?_
    refine Q.rd ?_; (repeat (intro b1; refine Q.rd ?_))
    refine D.e rfl rfl rfl ?_
    refine S.cf v rfl (RLock_spec v j.v k ⟨n.txn, n.after, n.oa, n.oc, n.ops⟩ _ hj.w.wf hk hn.rd.o hoc hov hN.o hN.ov) ?_
    rintro _ _ ⟨rfl, rfl⟩
    dsimp only
    rw [hE]
    by_cases hz : lockE j.v n.txn n.after (n.ops.map OV.abs) = 0
    · have hS : appS j n.abs = ⟨lockS j.v n.txn n.after (n.ops.map OV.abs), putL j.parts n.txn n.parts, j.done⟩ := by
        unfold appS; rw [hE, hz, if_neg (by decide), if_pos (show n.abs.kind = 12 from h12)]
      rw [hS, hz]
      refine Q.r ?_; (repeat (intro b1; refine Q.r ?_))
      refine Q.rd ?_; (repeat (intro b1; refine Q.rd ?_))
      refine Q.r ?_; (repeat (intro b1; refine Q.r ?_))
      refine Q.dgo [true, true] [7, 10, 13, 15, 16, 19] [19] [0, 1, 2, 3, 4, 5, 6, 8, 9, 11, 12, 99999, 0, 0, 0, 0, 0, 0, 0, 0] ?_
      repeat (first | refine D.endA ?_ | refine Q.dp rfl rfl rfl ?_ | refine Q.dy rfl rfl rfl ?_ | refine D.end_ ?_ | refine Q.endH ?_ | (refine D.e rfl rfl rfl ?_; (first | refine S.gskip1 rfl ?_ | refine S.gskip rfl ?_ | refine S.y (Y.gskipU rfl) ?_); refine opsS_nil ?_; refine N.tn ?_))
      refine D.two 7 10 [10, 13, 14, 15, 16, 17, 18, 19] [7, 13, 14, 15, 16, 17, 18, 19] (by kernel_rfl) rfl rfl rfl rfl (by kernel_rfl) (by kernel_rfl) ?_ ?_
      · refine S.cr rfl (without_spec pa pc ps n.txn _ hq.pS.rd (by omega)) ?_
        rintro _ _ ⟨a5, c5, rfl, rfl⟩
        refine Q.r ?_; (repeat (intro b1; refine Q.r ?_))
        repeat (first | refine D.endA ?_ | refine Q.dp rfl rfl rfl ?_ | refine Q.dy rfl rfl rfl ?_ | refine D.end_ ?_ | refine Q.endH ?_ | (refine D.e rfl rfl rfl ?_; (first | refine S.gskip1 rfl ?_ | refine S.gskip rfl ?_ | refine S.y (Y.gskipU rfl) ?_); refine opsS_nil ?_; refine N.tn ?_))
        refine D.e rfl rfl rfl ?_
        refine GQ.a ?_
        refine Q.al (fun bz => ?_)
        refine Q.r ?_; (repeat (intro b1; refine Q.r ?_))
        repeat (first | refine D.endA ?_ | refine Q.dp rfl rfl rfl ?_ | refine Q.dy rfl rfl rfl ?_ | refine D.end_ ?_ | refine Q.endH ?_ | (refine D.e rfl rfl rfl ?_; (first | refine S.gskip1 rfl ?_ | refine S.gskip rfl ?_ | refine S.y (Y.gskipU rfl) ?_); refine opsS_nil ?_; refine N.tn ?_))
        refine D.e rfl rfl rfl ?_
        first | refine opsS_ent (slO_fold (sz := 1) (m := 0) rfl) ?_ | refine opsS_ent (Ent.trans (Ent.perm (.swap _ _ _)) (slO_fold (sz := 1) (m := 0) rfl)) ?_
        refine S.app0 rfl rfl rfl (SrcS.rd (RdN.p hn.rd) (P_one _)) (by rfl) (by omega) (by omega) (fun a6 c6 => ?_)
        refine Q.r ?_; (repeat (intro b1; refine Q.r ?_))
        repeat (first | refine D.endA ?_ | refine Q.dp rfl rfl rfl ?_ | refine Q.dy rfl rfl rfl ?_ | refine D.end_ ?_ | refine Q.endH ?_ | (refine D.e rfl rfl rfl ?_; (first | refine S.gskip1 rfl ?_ | refine S.gskip rfl ?_ | refine S.y (Y.gskipU rfl) ?_); refine opsS_nil ?_; refine N.tn ?_))
        refine D.e rfl rfl rfl ?_
        refine GQ.a ?_
        refine Q.al (fun b8 => ?_)
        refine Q.r ?_; (repeat (intro b1; refine Q.r ?_))
        repeat (first | refine D.endA ?_ | refine Q.dp rfl rfl rfl ?_ | refine Q.dy rfl rfl rfl ?_ | refine D.end_ ?_ | refine Q.endH ?_ | (refine D.e rfl rfl rfl ?_; (first | refine S.gskip1 rfl ?_ | refine S.gskip rfl ?_ | refine S.y (Y.gskipU rfl) ?_); refine opsS_nil ?_; refine N.tn ?_))
        refine D.e rfl rfl rfl ?_
        refine S.app rfl rfl (SrcS.sl RdC.row (by rfl) (by rfl)) (by rfl) (by omega) (by omega) (fun a7 c7 => ?_)
        refine Q.r ?_; (repeat (intro b1; refine Q.r ?_))
        repeat (first | refine D.endA ?_ | refine Q.dp rfl rfl rfl ?_ | refine Q.dy rfl rfl rfl ?_ | refine D.end_ ?_ | refine Q.endH ?_ | (refine D.e rfl rfl rfl ?_; (first | refine S.gskip1 rfl ?_ | refine S.gskip rfl ?_ | refine S.y (Y.gskipU rfl) ?_); refine opsS_nil ?_; refine N.tn ?_))
        refine Q.dc rfl rfl rfl rfl ?_
        refine Q.r ?_; (repeat (intro b1; refine Q.r ?_))
        repeat (first | refine D.endA ?_ | refine Q.dp rfl rfl rfl ?_ | refine Q.dy rfl rfl rfl ?_ | refine D.end_ ?_ | refine Q.endH ?_ | (refine D.e rfl rfl rfl ?_; (first | refine S.gskip1 rfl ?_ | refine S.gskip rfl ?_ | refine S.y (Y.gskipU rfl) ?_); refine opsS_nil ?_; refine N.tn ?_))
        repeat (first | refine D.endA ?_ | refine Q.dp rfl rfl rfl ?_ | refine Q.dy rfl rfl rfl ?_ | refine D.end_ ?_ | refine Q.endH ?_ | (refine D.e rfl rfl rfl ?_; (first | refine S.gskip1 rfl ?_ | refine S.gskip rfl ?_ | refine S.y (Y.gskipU rfl) ?_); refine opsS_nil ?_; refine N.tn ?_))
        repeat (first | refine N.tn ?_ | refine N.tr ?_ | refine N.te ?_ | refine N.bn ?_ | refine N.br ?_ | refine N.be ?_ | refine N.bx rfl ?_)
        refine swp_front (roM M) ?_
        refine swp_abs a6 (fun M2 hl2 hs2 => ?_)
        refine swp_abs a7 (fun M3 hl3 hs3 => ?_)
        refine Q.r ?_; (repeat (intro b1; refine Q.r ?_))
        refine N.r1 (RV.tmp rfl RV.nil) ?_ ⟨rfl, rfl⟩
        have hs4 : SlM M3 a7 ((ps.filter fun u : QV => !decide (u.txn = n.txn)) ++ [(⟨n.txn, a6, c6, n.parts⟩ : QV)]).length 2 (((ps.filter fun u => !decide (u.txn = n.txn)) ++ [(⟨n.txn, a6, c6, n.parts⟩ : QV)]).flatMap QV.cells) := by
          rw [List.length_append, flat_snoc]; exact hs3
        have hq2 := hq.setP (pc2 := c7) (j' := ⟨lockS j.v n.txn n.after (n.ops.map OV.abs), putL j.parts n.txn n.parts, j.done⟩) (hl2.trans hl3) (hs2.mono hl3) rfl rfl hs4
        refine Ent.trans (rjclose2 (p := p) (v := v) (by rw [List.length_append]) hq2) ?_
        exact Go.SX.Ent.go
      · refine GQ.a ?_
        refine Q.al (fun bz => ?_)
        refine Q.r ?_; (repeat (intro b1; refine Q.r ?_))
        repeat (first | refine D.endA ?_ | refine Q.dp rfl rfl rfl ?_ | refine Q.dy rfl rfl rfl ?_ | refine D.end_ ?_ | refine Q.endH ?_ | (refine D.e rfl rfl rfl ?_; (first | refine S.gskip1 rfl ?_ | refine S.gskip rfl ?_ | refine S.y (Y.gskipU rfl) ?_); refine opsS_nil ?_; refine N.tn ?_))
        refine D.e rfl rfl rfl ?_
        refine S.cr rfl (without_spec pa pc ps n.txn _ hq.pS.rd (by omega)) ?_
        rintro _ _ ⟨a5, c5, rfl, rfl⟩
        refine Q.r ?_; (repeat (intro b1; refine Q.r ?_))
        repeat (first | refine D.endA ?_ | refine Q.dp rfl rfl rfl ?_ | refine Q.dy rfl rfl rfl ?_ | refine D.end_ ?_ | refine Q.endH ?_ | (refine D.e rfl rfl rfl ?_; (first | refine S.gskip1 rfl ?_ | refine S.gskip rfl ?_ | refine S.y (Y.gskipU rfl) ?_); refine opsS_nil ?_; refine N.tn ?_))
        refine D.e rfl rfl rfl ?_
        first | refine opsS_ent (slO_fold (sz := 1) (m := 0) rfl) ?_ | refine opsS_ent (Ent.trans (Ent.perm (.swap _ _ _)) (slO_fold (sz := 1) (m := 0) rfl)) ?_
        refine S.app0 rfl rfl rfl (SrcS.rd (RdN.p hn.rd) (P_one _)) (by rfl) (by omega) (by omega) (fun a6 c6 => ?_)
        refine Q.r ?_; (repeat (intro b1; refine Q.r ?_))
        repeat (first | refine D.endA ?_ | refine Q.dp rfl rfl rfl ?_ | refine Q.dy rfl rfl rfl ?_ | refine D.end_ ?_ | refine Q.endH ?_ | (refine D.e rfl rfl rfl ?_; (first | refine S.gskip1 rfl ?_ | refine S.gskip rfl ?_ | refine S.y (Y.gskipU rfl) ?_); refine opsS_nil ?_; refine N.tn ?_))
        refine D.e rfl rfl rfl ?_
        refine GQ.a ?_
        refine Q.al (fun b8 => ?_)
        refine Q.r ?_; (repeat (intro b1; refine Q.r ?_))
        repeat (first | refine D.endA ?_ | refine Q.dp rfl rfl rfl ?_ | refine Q.dy rfl rfl rfl ?_ | refine D.end_ ?_ | refine Q.endH ?_ | (refine D.e rfl rfl rfl ?_; (first | refine S.gskip1 rfl ?_ | refine S.gskip rfl ?_ | refine S.y (Y.gskipU rfl) ?_); refine opsS_nil ?_; refine N.tn ?_))
        refine D.e rfl rfl rfl ?_
        refine S.app rfl rfl (SrcS.sl RdC.row (by rfl) (by rfl)) (by rfl) (by omega) (by omega) (fun a7 c7 => ?_)
        refine Q.r ?_; (repeat (intro b1; refine Q.r ?_))
        repeat (first | refine D.endA ?_ | refine Q.dp rfl rfl rfl ?_ | refine Q.dy rfl rfl rfl ?_ | refine D.end_ ?_ | refine Q.endH ?_ | (refine D.e rfl rfl rfl ?_; (first | refine S.gskip1 rfl ?_ | refine S.gskip rfl ?_ | refine S.y (Y.gskipU rfl) ?_); refine opsS_nil ?_; refine N.tn ?_))
        refine Q.dc rfl rfl rfl rfl ?_
        refine Q.r ?_; (repeat (intro b1; refine Q.r ?_))
        repeat (first | refine D.endA ?_ | refine Q.dp rfl rfl rfl ?_ | refine Q.dy rfl rfl rfl ?_ | refine D.end_ ?_ | refine Q.endH ?_ | (refine D.e rfl rfl rfl ?_; (first | refine S.gskip1 rfl ?_ | refine S.gskip rfl ?_ | refine S.y (Y.gskipU rfl) ?_); refine opsS_nil ?_; refine N.tn ?_))
        repeat (first | refine D.endA ?_ | refine Q.dp rfl rfl rfl ?_ | refine Q.dy rfl rfl rfl ?_ | refine D.end_ ?_ | refine Q.endH ?_ | (refine D.e rfl rfl rfl ?_; (first | refine S.gskip1 rfl ?_ | refine S.gskip rfl ?_ | refine S.y (Y.gskipU rfl) ?_); refine opsS_nil ?_; refine N.tn ?_))
        repeat (first | refine N.tn ?_ | refine N.tr ?_ | refine N.te ?_ | refine N.bn ?_ | refine N.br ?_ | refine N.be ?_ | refine N.bx rfl ?_)
        refine swp_front (roM M) ?_
        refine swp_abs a6 (fun M2 hl2 hs2 => ?_)
        refine swp_abs a7 (fun M3 hl3 hs3 => ?_)
        refine Q.r ?_; (repeat (intro b1; refine Q.r ?_))
        refine N.r1 (RV.tmp rfl RV.nil) ?_ ⟨rfl, rfl⟩
        have hs4 : SlM M3 a7 ((ps.filter fun u : QV => !decide (u.txn = n.txn)) ++ [(⟨n.txn, a6, c6, n.parts⟩ : QV)]).length 2 (((ps.filter fun u => !decide (u.txn = n.txn)) ++ [(⟨n.txn, a6, c6, n.parts⟩ : QV)]).flatMap QV.cells) := by
          rw [List.length_append, flat_snoc]; exact hs3
        have hq2 := hq.setP (pc2 := c7) (j' := ⟨lockS j.v n.txn n.after (n.ops.map OV.abs), putL j.parts n.txn n.parts, j.done⟩) (hl2.trans hl3) (hs2.mono hl3) rfl rfl hs4
        refine Ent.trans (rjclose2 (p := p) (v := v) (by rw [List.length_append]) hq2) ?_
        exact Go.SX.Ent.go
    · have hS : appS j n.abs = j := by unfold appS; rw [hE, if_pos hz]
      have hS2 : lockS j.v n.txn n.after (n.ops.map OV.abs) = j.v := by unfold lockS; rw [if_neg hz]
      rw [hS, hS2]
      refine Q.r ?_; (repeat (intro b1; refine Q.r ?_))
      refine Q.rd ?_; (repeat (intro b1; refine Q.rd ?_))
      refine Q.r ?_; (repeat (intro b1; refine Q.r ?_))
      refine N.r1 (RV.tmp rfl RV.nil) ?_ ⟨rfl, rfl⟩
      refine Ent.trans (rjclose (p := p) (v := v) (j := j) hq) ?_
      exact Go.SX.Ent.go
  by_cases h13 : n.kind = 13
  · have hE : appE j n.abs = applyE j.v n.txn n.stamp := by
      unfold appE; rw [hr, if_neg (by decide), if_neg (show ¬ n.abs.kind = 12 from h12), if_pos (show n.abs.kind = 13 from h13)]
    refine Q.r ?_; (repeat (intro b1; refine Q.r ?_))
    refine swp_rj p (fun v sf M pa pc ps da dc ds hq => ?_)
    have hpl2 : ps.length ≤ 10000 := by have := hq.pp.length_eq; rw [List.length_map] at this; omega
    have hfl : (ps.filter fun u : QV => !decide (u.txn = n.txn)).length ≤ ps.length := List.length_filter_le _ _
    have hdl2 : ds.length ≤ 10000 := by rw [hq.dp.length_eq]; exact hdl
    refine Q.dgo [true, false, false, true] [8] [] [0, 1, 2, 3, 4, 5, 6, 7, 8, 9] ?_
    refine Q.rd ?_; (repeat (intro b1; refine Q.rd ?_))
    refine D.e rfl rfl rfl ?_
    refine S.cf v rfl (RApply_spec v j.v k n.txn n.stamp _ hj.w.wf hk u.stamp.1) ?_
    rintro _ _ ⟨rfl, rfl⟩
    rw [hE]
    by_cases hz : applyE j.v n.txn n.stamp = 0
    · have hS : appS j n.abs = ⟨applyS j.v n.txn n.stamp, delL j.parts n.txn, putL j.done n.txn n.stamp⟩ := by
        unfold appS; rw [hE, hz, if_neg (by decide), if_neg (show ¬ n.abs.kind = 12 from h12), if_pos (show n.abs.kind = 13 from h13)]
      rw [hS, hz]
      refine Q.r ?_; (repeat (intro b1; refine Q.r ?_))
      refine Q.rd ?_; (repeat (intro b1; refine Q.rd ?_))
      refine Q.r ?_; (repeat (intro b1; refine Q.r ?_))
      refine Q.dgo [true, true] [11, 18, 21, 24] [21] [0, 1, 2, 3, 4, 5, 6, 7, 8, 9, 10, 12, 13, 14, 15, 16, 17, 11, 18, 19, 20, 21, 22, 23, 24] ?_
      repeat (first | refine D.endA ?_ | refine Q.dp rfl rfl rfl ?_ | refine Q.dy rfl rfl rfl ?_ | refine D.end_ ?_ | refine Q.endH ?_ | (refine D.e rfl rfl rfl ?_; (first | refine S.gskip1 rfl ?_ | refine S.gskip rfl ?_ | refine S.y (Y.gskipU rfl) ?_); refine opsS_nil ?_; refine N.tn ?_))
      refine D.e rfl rfl rfl ?_
      refine S.cr rfl (put_spec da dc ds (n.txn, n.stamp) _ hq.dS.rd hq.dc (by omega) hq.sd) ?_
      rintro _ _ ⟨a6, c6, rfl, rfl⟩
      refine Q.r ?_; (repeat (intro b1; refine Q.r ?_))
      repeat (first | refine D.endA ?_ | refine Q.dp rfl rfl rfl ?_ | refine Q.dy rfl rfl rfl ?_ | refine D.end_ ?_ | refine Q.endH ?_ | (refine D.e rfl rfl rfl ?_; (first | refine S.gskip1 rfl ?_ | refine S.gskip rfl ?_ | refine S.y (Y.gskipU rfl) ?_); refine opsS_nil ?_; refine N.tn ?_))
      refine D.e rfl rfl rfl ?_
      refine S.cr rfl (without_spec pa pc ps n.txn _ hq.pS.rd (by omega)) ?_
      rintro _ _ ⟨a5, c5, rfl, rfl⟩
      refine Q.r ?_; (repeat (intro b1; refine Q.r ?_))
      repeat (first | refine D.endA ?_ | refine Q.dp rfl rfl rfl ?_ | refine Q.dy rfl rfl rfl ?_ | refine D.end_ ?_ | refine Q.endH ?_ | (refine D.e rfl rfl rfl ?_; (first | refine S.gskip1 rfl ?_ | refine S.gskip rfl ?_ | refine S.y (Y.gskipU rfl) ?_); refine opsS_nil ?_; refine N.tn ?_))
      refine Q.dc rfl rfl rfl rfl ?_
      refine Q.r ?_; (repeat (intro b1; refine Q.r ?_))
      repeat (first | refine D.endA ?_ | refine Q.dp rfl rfl rfl ?_ | refine Q.dy rfl rfl rfl ?_ | refine D.end_ ?_ | refine Q.endH ?_ | (refine D.e rfl rfl rfl ?_; (first | refine S.gskip1 rfl ?_ | refine S.gskip rfl ?_ | refine S.y (Y.gskipU rfl) ?_); refine opsS_nil ?_; refine N.tn ?_))
      refine D.e rfl rfl rfl ?_
      refine Q.r ?_; (repeat (intro b1; refine Q.r ?_))
      repeat (first | refine D.endA ?_ | refine Q.dp rfl rfl rfl ?_ | refine Q.dy rfl rfl rfl ?_ | refine D.end_ ?_ | refine Q.endH ?_ | (refine D.e rfl rfl rfl ?_; (first | refine S.gskip1 rfl ?_ | refine S.gskip rfl ?_ | refine S.y (Y.gskipU rfl) ?_); refine opsS_nil ?_; refine N.tn ?_))
      repeat (first | refine D.endA ?_ | refine Q.dp rfl rfl rfl ?_ | refine Q.dy rfl rfl rfl ?_ | refine D.end_ ?_ | refine Q.endH ?_ | (refine D.e rfl rfl rfl ?_; (first | refine S.gskip1 rfl ?_ | refine S.gskip rfl ?_ | refine S.y (Y.gskipU rfl) ?_); refine opsS_nil ?_; refine N.tn ?_))
      repeat (first | refine N.tn ?_ | refine N.tr ?_ | refine N.te ?_ | refine N.bn ?_ | refine N.br ?_ | refine N.be ?_ | refine N.bx rfl ?_)
      refine swp_front (roM M) ?_
      refine swp_cap a6 (fun hc6 => ?_)
      refine swp_abs a6 (fun M2 hl2 hs2 => ?_)
      refine swp_abs a5 (fun M3 hl3 hs3 => ?_)
      refine Q.r ?_; (repeat (intro b1; refine Q.r ?_))
      refine N.r1 (RV.tmp rfl RV.nil) ?_ ⟨rfl, rfl⟩
      have hq1 := hq.putD (j' := ⟨j.v, j.parts, putL j.done n.txn n.stamp⟩) (d := (n.txn, n.stamp)) hl2 rfl rfl hs2 hc6
      have hq2 := hq1.delP (pc2 := c5) (j' := ⟨applyS j.v n.txn n.stamp, delL j.parts n.txn, putL j.done n.txn n.stamp⟩) hl3 rfl rfl hs3
      refine Ent.trans (rjclose (p := p) (v := v) hq2) ?_
      exact Go.SX.Ent.go
    · have hS : appS j n.abs = j := by unfold appS; rw [hE, if_pos hz]
      rw [hS, applyS_ne hz]
      refine Q.r ?_; (repeat (intro b1; refine Q.r ?_))
      refine Q.rd ?_; (repeat (intro b1; refine Q.rd ?_))
      refine Q.r ?_; (repeat (intro b1; refine Q.r ?_))
      refine N.r1 (RV.tmp rfl RV.nil) ?_ ⟨rfl, rfl⟩
      refine Ent.trans (rjclose (p := p) (v := v) (j := j) hq) ?_
      exact Go.SX.Ent.go
  by_cases h14 : n.kind = 14
  · have hE : appE j n.abs = if (lkL j.v.its n.txn).isSome then 0 else 6 := by
      unfold appE; rw [hr, if_neg (by decide), if_neg (show ¬ n.abs.kind = 12 from h12), if_neg (show ¬ n.abs.kind = 13 from h13), if_pos (show n.abs.kind = 14 from h14)]
    refine Q.r ?_; (repeat (intro b1; refine Q.r ?_))
    refine swp_rj p (fun v sf M pa pc ps da dc ds hq => ?_)
    have hpl2 : ps.length ≤ 10000 := by have := hq.pp.length_eq; rw [List.length_map] at this; omega
    have hfl : (ps.filter fun u : QV => !decide (u.txn = n.txn)).length ≤ ps.length := List.length_filter_le _ _
    refine Q.dgo [true, false, false, true] [6] [] [0, 1, 2, 3, 4, 5, 6, 7] ?_
    refine Q.rd ?_; (repeat (intro b1; refine Q.rd ?_))
    refine D.e rfl rfl rfl ?_
    refine S.cf v rfl (RFree_spec v j.v n.txn _ (by omega)) ?_
    rintro _ _ ⟨rfl, rfl⟩
    rw [hE]
    cases hz : (lkL j.v.its n.txn).isSome with
    | true =>
      rw [hz] at hE
      have hS : appS j n.abs = ⟨{ j.v with its := delL j.v.its n.txn }, delL j.parts n.txn, j.done⟩ := by
        unfold appS; rw [hE, if_pos rfl, if_neg (by decide), if_neg (show ¬ n.abs.kind = 12 from h12), if_neg (show ¬ n.abs.kind = 13 from h13), if_pos (show n.abs.kind = 14 from h14)]
      rw [hS, if_pos rfl]
      refine Q.r ?_; (repeat (intro b1; refine Q.r ?_))
      refine Q.rd ?_; (repeat (intro b1; refine Q.rd ?_))
      refine Q.r ?_; (repeat (intro b1; refine Q.r ?_))
      refine Q.dgo [true, true] [7, 10] [10] [0, 1, 2, 3, 4, 5, 6, 7, 8, 9, 10] ?_
      repeat (first | refine D.endA ?_ | refine Q.dp rfl rfl rfl ?_ | refine Q.dy rfl rfl rfl ?_ | refine D.end_ ?_ | refine Q.endH ?_ | (refine D.e rfl rfl rfl ?_; (first | refine S.gskip1 rfl ?_ | refine S.gskip rfl ?_ | refine S.y (Y.gskipU rfl) ?_); refine opsS_nil ?_; refine N.tn ?_))
      refine D.e rfl rfl rfl ?_
      refine S.cr rfl (without_spec pa pc ps n.txn _ hq.pS.rd (by omega)) ?_
      rintro _ _ ⟨a5, c5, rfl, rfl⟩
      refine Q.r ?_; (repeat (intro b1; refine Q.r ?_))
      repeat (first | refine D.endA ?_ | refine Q.dp rfl rfl rfl ?_ | refine Q.dy rfl rfl rfl ?_ | refine D.end_ ?_ | refine Q.endH ?_ | (refine D.e rfl rfl rfl ?_; (first | refine S.gskip1 rfl ?_ | refine S.gskip rfl ?_ | refine S.y (Y.gskipU rfl) ?_); refine opsS_nil ?_; refine N.tn ?_))
      refine Q.dc rfl rfl rfl rfl ?_
      refine Q.r ?_; (repeat (intro b1; refine Q.r ?_))
      repeat (first | refine D.endA ?_ | refine Q.dp rfl rfl rfl ?_ | refine Q.dy rfl rfl rfl ?_ | refine D.end_ ?_ | refine Q.endH ?_ | (refine D.e rfl rfl rfl ?_; (first | refine S.gskip1 rfl ?_ | refine S.gskip rfl ?_ | refine S.y (Y.gskipU rfl) ?_); refine opsS_nil ?_; refine N.tn ?_))
      repeat (first | refine D.endA ?_ | refine Q.dp rfl rfl rfl ?_ | refine Q.dy rfl rfl rfl ?_ | refine D.end_ ?_ | refine Q.endH ?_ | (refine D.e rfl rfl rfl ?_; (first | refine S.gskip1 rfl ?_ | refine S.gskip rfl ?_ | refine S.y (Y.gskipU rfl) ?_); refine opsS_nil ?_; refine N.tn ?_))
      repeat (first | refine N.tn ?_ | refine N.tr ?_ | refine N.te ?_ | refine N.bn ?_ | refine N.br ?_ | refine N.be ?_ | refine N.bx rfl ?_)
      refine swp_front (roM M) ?_
      refine swp_abs a5 (fun M3 hl3 hs3 => ?_)
      refine Q.r ?_; (repeat (intro b1; refine Q.r ?_))
      refine N.r1 (RV.tmp rfl RV.nil) ?_ ⟨rfl, rfl⟩
      have hq2 := hq.delP (pc2 := c5) (j' := ⟨{ j.v with its := delL j.v.its n.txn }, delL j.parts n.txn, j.done⟩) hl3 rfl rfl hs3
      refine Ent.trans (rjclose (p := p) (v := v) hq2) ?_
      exact Go.SX.Ent.go
    | false =>
      rw [hz] at hE
      have hS : appS j n.abs = j := by unfold appS; rw [hE, if_pos (by decide)]
      have hz2 : lkL j.v.its n.txn = none := isSome_ne (by rw [hz]; decide)
      have hS2 : ({ j.v with its := delL j.v.its n.txn } : VS) = j.v := by rw [delL_none (lk_none' hz2)]
      rw [hS, hS2, if_neg (by decide)]
      refine Q.r ?_; (repeat (intro b1; refine Q.r ?_))
      refine Q.rd ?_; (repeat (intro b1; refine Q.rd ?_))
      refine Q.r ?_; (repeat (intro b1; refine Q.r ?_))
      refine N.r1 (RV.tmp rfl RV.nil) ?_ ⟨rfl, rfl⟩
      refine Ent.trans (rjclose (p := p) (v := v) (j := j) hq) ?_
      exact Go.SX.Ent.go
  by_cases h15 : n.kind = 15
  · have hE : appE j n.abs = 0 := by
      unfold appE; rw [hr, if_neg (by decide), if_neg (show ¬ n.abs.kind = 12 from h12), if_neg (show ¬ n.abs.kind = 13 from h13), if_neg (show ¬ n.abs.kind = 14 from h14), if_pos (show n.abs.kind = 15 from h15)]
    have hS : appS j n.abs = ⟨sweepS j.v n.mark, j.parts, j.done⟩ := by
      unfold appS; rw [hE, if_neg (by decide), if_neg (show ¬ n.abs.kind = 12 from h12), if_neg (show ¬ n.abs.kind = 13 from h13), if_neg (show ¬ n.abs.kind = 14 from h14), if_pos (show n.abs.kind = 15 from h15)]
    rw [hE, hS]
    refine Q.r ?_; (repeat (intro b1; refine Q.r ?_))
    refine swp_rj p (fun v sf M pa pc ps da dc ds hq => ?_)
    refine Q.dgo [true, false, false, true] [6] [] [0, 1, 2, 3, 4, 5, 6] ?_
    refine Q.rd ?_; (repeat (intro b1; refine Q.rd ?_))
    refine D.e rfl rfl rfl ?_
    refine S.cf v rfl (RSweep_spec v j.v k n.mark _ hj.w.wf hk) ?_
    rintro _ _ ⟨a5, c5, rfl, rfl⟩
    refine Q.r ?_; (repeat (intro b1; refine Q.r ?_))
    refine Q.rd ?_; (repeat (intro b1; refine Q.rd ?_))
    refine Q.r ?_; (repeat (intro b1; refine Q.r ?_))
    refine N.r1 (RV.tmp rfl RV.nil) ?_ ⟨rfl, rfl⟩
    refine Ent.trans (rjclose (p := p) (v := v) (j := ⟨sweepS j.v n.mark, j.parts, j.done⟩) (hq.same rfl rfl)) ?_
    exact Go.SX.Ent.go
  · have hE : appE j n.abs = 4 := by
      unfold appE; rw [hr, if_neg (by decide), if_neg (show ¬ n.abs.kind = 12 from h12), if_neg (show ¬ n.abs.kind = 13 from h13), if_neg (show ¬ n.abs.kind = 14 from h14), if_neg (show ¬ n.abs.kind = 15 from h15)]
    have hS : appS j n.abs = j := by unfold appS; rw [hE]; rfl
    rw [hE, hS]
    refine Q.r ?_; (repeat (intro b1; refine Q.r ?_))
    exact N.r1 (RV.tmp rfl RV.nil) (by exact Go.SX.Ent.go) ⟨rfl, rfl⟩
end Go.Proofs.YtjidejcehmamkaaGreatDoor
namespace Go.Proofs.YtjidejcehmamkaaGreatDoor
open Go Go.SX
attribute [local irreducible] swp opsS thenS blockS retS CallsS St Ent YieldS anyS drawS
def RdNs (A : List HP) (a : Option Addr) (xs : List NV) : Prop := RdS A a xs.length 16 (xs.flatMap NV.cells) ∧ ∀ n ∈ xs, RdN A n ∧ OkN n
def RdMs (A : List HP) (a : Option Addr) (xs : List (Int × NV)) : Prop := RdS A a xs.length 17 (xs.flatMap mcells) ∧ ∀ n ∈ xs, RdN A n.2 ∧ OkN n.2
theorem RdNs.sub {A L : List HP} {a : Option Addr} {xs : List NV} (h : RdNs A a xs) [s : Sub A L] : RdNs L a xs := ⟨h.1.sub, fun n hn => ⟨(h.2 n hn).1.sub, (h.2 n hn).2⟩⟩
theorem RdMs.sub {A L : List HP} {a : Option Addr} {xs : List (Int × NV)} (h : RdMs A a xs) [s : Sub A L] : RdMs L a xs := ⟨h.1.sub, fun n hn => ⟨(h.2 n hn).1.sub, (h.2 n hn).2⟩⟩
set_option maxHeartbeats 1000000 in
theorem SameAll_spec (a : Option Addr) (c : Nat) (xs : List NV) (a' : Option Addr) (c' : Nat) (ys : List NV) (A : List HP) (h : RdNs A a xs) (h' : RdNs A a' ys) (hn : xs.length ≤ 1000000) (he : xs.map NV.abs = ys.map NV.abs) :
    CallsS Tryz.prog 103 [.slice a xs.length c, .slice a' ys.length c'] A (fun v L' => v = .bool true ∧ L' = A) := by
  have hl : ys.length = xs.length := by
    have := congrArg List.length he
    simp at this; omega
  refine CallsS.of_body Tryz.func103 rfl rfl rfl ?_
  refine Q.r ?_; (repeat (intro b1; refine Q.r ?_))
  refine swp_loop (σ := Nat) (fun k => [(0, .slice a xs.length c), (1, .slice a' ys.length c'), (12, .int .i64 xs.length), (13, .int .i64 k)]) (fun _ => A)
    (fun k => k ≤ xs.length) (fun k => xs.length - k) 0 ⟨rfl, rfl, rfl, rfl, trivial⟩ (Ent.refl _) (by omega) ?_
  intro k hk
  by_cases hlt : k < xs.length
  · obtain ⟨x, hx⟩ := mem_get hlt
    obtain ⟨y, hy⟩ := mem_get (l := ys) (k := k) (by omega)
    have hxy := okmap he hx hy
    have hrx := h.2 x (List.mem_of_getElem? hx)
    have hry := h'.2 y (List.mem_of_getElem? hy)
    obtain ⟨b, o, rfl, hr⟩ := RdS.elem (g := NV.cells) (l := xs) (fun _ => rfl) h.1 hx rfl
    obtain ⟨b', o', rfl, hr'⟩ := RdS.elem (g := NV.cells) (l := ys) (fun _ => rfl) h'.1 hy rfl
    clear hx hy he
    refine Q.r ?_; (repeat (intro b1; refine Q.r ?_))
    refine D.start [8] [8] [0, 1, 2, 3, 4, 5, 6, 7, 8, 9] _ [] rfl (by kernel_rfl) rfl (by kernel_rfl) NoPanic.no (Ent.refl _) ?_
    repeat (first | refine Q.dyn rfl rfl rfl ?_ | refine Q.dyl rfl rfl rfl ?_ | refine D.y rfl rfl rfl (by kernel_rfl) (by first | exact (Y.ldRj rfl (by first | assumption | exact RdC.sub (by assumption)) rfl) | exact Y.guard rfl (Y.ldRj rfl (by first | assumption | exact RdC.sub (by assumption)) rfl)) ?_ | refine D.endA ?_ | refine Q.dp rfl rfl rfl ?_ | refine Q.dy rfl rfl rfl ?_ | refine D.end_ ?_ | refine Q.endH ?_ | (refine D.e rfl rfl rfl ?_; (first | refine S.gskip1 rfl ?_ | refine S.gskip rfl ?_ | refine S.y (Y.gskipU rfl) ?_); refine opsS_nil ?_; refine N.tn ?_) | refine Q.dT rfl rfl rfl ?_ | refine Q.dF rfl rfl rfl ?_ | (refine D.e rfl rfl rfl ?_; (first | (refine GQ.a ?_; refine Q.al (fun b1 => ?_)) | (refine GQ.s ?_; refine Q.st ?_)); refine opsS_nil ?_; refine N.tn ?_))
    refine Q.dc rfl rfl rfl rfl ?_
    rw [List.append_nil]
    refine S.cr (args := [x.val, y.val]) rfl (Same12_spec x y _ hrx.1 hry.1 hrx.2 hry.2 hxy) ?_
    rintro _ _ ⟨rfl, he⟩
    rw [he]
    clear he
    refine Q.r ?_; (repeat (intro b1; refine Q.r ?_))
    repeat (first | refine Q.dyn rfl rfl rfl ?_ | refine Q.dyl rfl rfl rfl ?_ | refine D.y rfl rfl rfl (by kernel_rfl) (by first | exact (Y.ldRj rfl (by first | assumption | exact RdC.sub (by assumption)) rfl) | exact Y.guard rfl (Y.ldRj rfl (by first | assumption | exact RdC.sub (by assumption)) rfl)) ?_ | refine D.endA ?_ | refine Q.dp rfl rfl rfl ?_ | refine Q.dy rfl rfl rfl ?_ | refine D.end_ ?_ | refine Q.endH ?_ | (refine D.e rfl rfl rfl ?_; (first | refine S.gskip1 rfl ?_ | refine S.gskip rfl ?_ | refine S.y (Y.gskipU rfl) ?_); refine opsS_nil ?_; refine N.tn ?_) | refine Q.dT rfl rfl rfl ?_ | refine Q.dF rfl rfl rfl ?_ | (refine D.e rfl rfl rfl ?_; (first | (refine GQ.a ?_; refine Q.al (fun b1 => ?_)) | (refine GQ.s ?_; refine Q.st ?_)); refine opsS_nil ?_; refine N.tn ?_))
    refine Q.r ?_; (repeat (intro b1; refine Q.r ?_))
    exact ⟨k + 1, ⟨rfl, rfl, rfl, rfl, trivial⟩, Ent.refl _, by omega, by omega⟩
  · have hke : k = xs.length := by omega
    subst hke
    refine Q.r ?_; (repeat (intro b1; refine Q.r ?_))
    exact N.r1 (RV.tmp rfl RV.nil) (Ent.refl _) ⟨rfl, rfl⟩
set_option maxHeartbeats 1000000 in
theorem SameMail_spec (a : Option Addr) (c : Nat) (xs : List (Int × NV)) (a' : Option Addr) (c' : Nat) (ys : List (Int × NV)) (A : List HP) (h : RdMs A a xs) (h' : RdMs A a' ys) (hn : xs.length ≤ 1000000) (he : xs.map (fun m => (m.1, m.2.abs)) = ys.map (fun m => (m.1, m.2.abs))) :
    CallsS Tryz.prog 20 [.slice a xs.length c, .slice a' ys.length c'] A (fun v L' => v = .bool true ∧ L' = A) := by
  have hl : ys.length = xs.length := by
    have := congrArg List.length he
    simp at this; omega
  refine CallsS.of_body Tryz.func20 rfl rfl rfl ?_
  refine Q.r ?_; (repeat (intro b1; refine Q.r ?_))
  refine swp_loop (σ := Nat) (fun k => [(0, .slice a xs.length c), (1, .slice a' ys.length c'), (12, .int .i64 xs.length), (13, .int .i64 k)]) (fun _ => A)
    (fun k => k ≤ xs.length) (fun k => xs.length - k) 0 ⟨rfl, rfl, rfl, rfl, trivial⟩ (Ent.refl _) (by omega) ?_
  intro k hk
  by_cases hlt : k < xs.length
  · obtain ⟨x, hx⟩ := mem_get hlt
    obtain ⟨y, hy⟩ := mem_get (l := ys) (k := k) (by omega)
    have hxy := okmap he hx hy
    have hrx := h.2 x (List.mem_of_getElem? hx)
    have hry := h'.2 y (List.mem_of_getElem? hy)
    obtain ⟨b, o, rfl, hr⟩ := RdS.elem (g := mcells) (l := xs) (fun _ => rfl) h.1 hx rfl
    obtain ⟨b', o', rfl, hr'⟩ := RdS.elem (g := mcells) (l := ys) (fun _ => rfl) h'.1 hy rfl
    clear hx hy he
    obtain ⟨x1, x2⟩ := x
    obtain ⟨y1, y2⟩ := y
    dsimp only at hrx hry hxy
    obtain ⟨hx1, hx2⟩ := Prod.mk.inj hxy
    subst hx1
    have ht : RdC A b (o + k * 17 + 1) x2.cells := hr.tail
    have ht' : RdC A b' (o' + k * 17 + 1) y2.cells := hr'.tail
    have hh : RdC A b (o + k * 17) [I64 x1] := hr.head
    have hh' : RdC A b' (o' + k * 17) [I64 x1] := hr'.head
    clear hr hr'
    refine Q.r ?_; (repeat (intro b1; refine Q.r ?_))
    refine D.start [22] [22] [0, 1, 2, 3, 4, 5, 6, 7, 8, 9, 10, 11, 12, 13, 14, 15, 16, 17, 18, 19, 20, 21, 22, 23, 24] _ [] rfl (by kernel_rfl) rfl (by kernel_rfl) NoPanic.no (Ent.refl _) ?_
    repeat (first | refine Q.dyn rfl rfl rfl ?_ | refine Q.dyl rfl rfl rfl ?_ | refine D.y rfl rfl rfl (by kernel_rfl) (by first | exact (Y.ldRj rfl (by first | assumption | exact RdC.sub (by assumption)) rfl) | exact Y.guard rfl (Y.ldRj rfl (by first | assumption | exact RdC.sub (by assumption)) rfl)) ?_ | refine D.endA ?_ | refine Q.dp rfl rfl rfl ?_ | refine Q.dy rfl rfl rfl ?_ | refine D.end_ ?_ | refine Q.endH ?_ | (refine D.e rfl rfl rfl ?_; (first | refine S.gskip1 rfl ?_ | refine S.gskip rfl ?_ | refine S.y (Y.gskipU rfl) ?_); refine opsS_nil ?_; refine N.tn ?_) | refine Q.dT rfl rfl rfl ?_ | refine Q.dF rfl rfl rfl ?_ | (refine D.e rfl rfl rfl ?_; (first | (refine GQ.a ?_; refine Q.al (fun b1 => ?_)) | (refine GQ.s ?_; refine Q.st ?_)); refine opsS_nil ?_; refine N.tn ?_))
    refine Q.dF rfl rfl rfl ?_ (by simp)
    repeat (first | refine Q.dyn rfl rfl rfl ?_ | refine Q.dyl rfl rfl rfl ?_ | refine D.y rfl rfl rfl (by kernel_rfl) (by first | exact (Y.ldRj rfl (by first | assumption | exact RdC.sub (by assumption)) rfl) | exact Y.guard rfl (Y.ldRj rfl (by first | assumption | exact RdC.sub (by assumption)) rfl)) ?_ | refine D.endA ?_ | refine Q.dp rfl rfl rfl ?_ | refine Q.dy rfl rfl rfl ?_ | refine D.end_ ?_ | refine Q.endH ?_ | (refine D.e rfl rfl rfl ?_; (first | refine S.gskip1 rfl ?_ | refine S.gskip rfl ?_ | refine S.y (Y.gskipU rfl) ?_); refine opsS_nil ?_; refine N.tn ?_) | refine Q.dT rfl rfl rfl ?_ | refine Q.dF rfl rfl rfl ?_ | (refine D.e rfl rfl rfl ?_; (first | (refine GQ.a ?_; refine Q.al (fun b1 => ?_)) | (refine GQ.s ?_; refine Q.st ?_)); refine opsS_nil ?_; refine N.tn ?_))
    refine Q.dc rfl rfl rfl rfl ?_
    rw [List.append_nil]
    refine S.guard rfl ?_
    refine S.cr (args := [x2.val, y2.val]) rfl (Same12_spec x2 y2 _ hrx.1 hry.1 hrx.2 hry.2 hx2) ?_
    rintro _ _ ⟨rfl, he⟩
    rw [he]
    clear he
    refine Q.r ?_; (repeat (intro b1; refine Q.r ?_))
    repeat (first | refine Q.dyn rfl rfl rfl ?_ | refine Q.dyl rfl rfl rfl ?_ | refine D.y rfl rfl rfl (by kernel_rfl) (by first | exact (Y.ldRj rfl (by first | assumption | exact RdC.sub (by assumption)) rfl) | exact Y.guard rfl (Y.ldRj rfl (by first | assumption | exact RdC.sub (by assumption)) rfl)) ?_ | refine D.endA ?_ | refine Q.dp rfl rfl rfl ?_ | refine Q.dy rfl rfl rfl ?_ | refine D.end_ ?_ | refine Q.endH ?_ | (refine D.e rfl rfl rfl ?_; (first | refine S.gskip1 rfl ?_ | refine S.gskip rfl ?_ | refine S.y (Y.gskipU rfl) ?_); refine opsS_nil ?_; refine N.tn ?_) | refine Q.dT rfl rfl rfl ?_ | refine Q.dF rfl rfl rfl ?_ | (refine D.e rfl rfl rfl ?_; (first | (refine GQ.a ?_; refine Q.al (fun b1 => ?_)) | (refine GQ.s ?_; refine Q.st ?_)); refine opsS_nil ?_; refine N.tn ?_))
    refine Q.r ?_; (repeat (intro b1; refine Q.r ?_))
    exact ⟨k + 1, ⟨rfl, rfl, rfl, rfl, trivial⟩, Ent.refl _, by omega, by omega⟩
  · have hke : k = xs.length := by omega
    subst hke
    refine Q.r ?_; (repeat (intro b1; refine Q.r ?_))
    exact N.r1 (RV.tmp rfl RV.nil) (Ent.refl _) ⟨rfl, rfl⟩
theorem SamePlan_spec (ra rb : Option Addr) (rc rd : Nat) (xs ys : List NV) (ma mb ea eb : Option Addr) (mc md ec ed : Nat) (ms ns es fs : List (Int × NV)) (A : List HP) (h : RdNs A ra xs) (h' : RdNs A rb ys) (hm : RdMs A ma ms) (hm' : RdMs A mb ns) (he : RdMs A ea es) (he' : RdMs A eb fs)
    (hn : xs.length ≤ 1000000) (hn2 : ms.length ≤ 1000000) (hn3 : es.length ≤ 1000000) (e1 : xs.map NV.abs = ys.map NV.abs) (e2 : ms.map (fun m => (m.1, m.2.abs)) = ns.map (fun m => (m.1, m.2.abs))) (e3 : es.map (fun m => (m.1, m.2.abs)) = fs.map (fun m => (m.1, m.2.abs))) :
    CallsS Tryz.prog 34 [.agg #[.slice ra xs.length rc, .slice ma ms.length mc, .slice ea es.length ec], .agg #[.slice rb ys.length rd, .slice mb ns.length md, .slice eb fs.length ed]] A (fun v L' => v = .bool true ∧ L' = A) := by
  refine CallsS.of_body Tryz.func34 rfl rfl rfl ?_
  refine Q.r ?_; (repeat (intro b1; refine Q.r ?_))
  refine S.cr rfl (SameAll_spec ra rc xs rb rd ys _ h.sub h'.sub hn e1) ?_
  rintro _ _ ⟨rfl, rfl⟩
  refine Q.r ?_; (repeat (intro b1; refine Q.r ?_))
  refine S.cr rfl (SameMail_spec ma mc ms mb md ns _ hm.sub hm'.sub hn2 e2) ?_
  rintro _ _ ⟨rfl, rfl⟩
  refine Q.r ?_; (repeat (intro b1; refine Q.r ?_))
  refine S.cr rfl (SameMail_spec ea ec es eb ed fs _ he.sub he'.sub hn3 e3) ?_
  rintro _ _ ⟨rfl, rfl⟩
  refine Q.r ?_; (repeat (intro b1; refine Q.r ?_))
  exact N.r1 (RV.tmp rfl RV.nil) (Ent.drop (Ent.drop (Ent.refl _))) ⟨rfl, rfl⟩
theorem back_spec (a : Option Addr) (c : Nat) (ms : List (Int × NV)) (A : List HP) (h : RdS A a ms.length 17 (ms.flatMap mcells)) (hn : ms.length ≤ 1000000) :
    CallsS Tryz.prog 21 [.slice a ms.length c] A (fun r L' => ∃ a' c', r = .slice a' ms.length c' ∧ L' = slO 135 17 a' ms.length c' (ms.flatMap mcells) :: A) := by
  refine CallsS.of_body Tryz.func21 rfl rfl rfl ?_
  refine Q.r ?_; (repeat (intro b1; refine Q.r ?_))
  refine swp_loop (σ := Nat × Option Addr × Nat × List (Int × NV)) (fun s => [(6, .slice a ms.length c), (7, .int .i64 ms.length), (3, .slice s.2.1 s.2.2.2.length s.2.2.1), (8, .int .i64 s.1)])
    (fun s => slO 135 17 s.2.1 s.2.2.2.length s.2.2.1 (s.2.2.2.flatMap mcells) :: A)
    (fun s => s.1 ≤ ms.length ∧ s.2.2.2 = ms.take s.1) (fun s => ms.length - s.1) (0, none, 0, []) ⟨rfl, rfl, rfl, rfl, trivial⟩ slO_nil ⟨by omega, by simp⟩ ?_
  rintro ⟨k, a3, c3, us⟩ ⟨hk, hus⟩
  dsimp only at hk hus ⊢
  have hul : us.length = k := by rw [hus, List.length_take]; omega
  by_cases hlt : k < ms.length
  · obtain ⟨q, hq⟩ := mem_get hlt
    have hrs : RdS (slO 135 17 a3 us.length c3 (us.flatMap mcells) :: A) a ms.length 17 (ms.flatMap mcells) := h.sub
    obtain ⟨b, oo, hia, hr⟩ := RdS.elem (g := mcells) (fun _ => rfl) hrs hq rfl
    clear hrs
    rw [hia]
    refine Q.r ?_; (repeat (intro b1; refine Q.r ?_))
    refine S.app rfl rfl (SrcS.sl RdC.row (by rfl) (by rfl)) (by rfl) (by omega) (by omega) (fun a7 c7 => ?_)
    refine Q.r ?_; (repeat (intro b1; refine Q.r ?_))
    refine ⟨(k + 1, a7, c7, us ++ [q]), ⟨rfl, rfl, congrArg some (by simp), rfl, trivial⟩, ?_, ⟨by dsimp only; omega, ?_⟩, by dsimp only; omega⟩
    · dsimp only
      rw [len_snoc, flat_snoc]
      exact Go.SX.Ent.go
    · dsimp only
      rw [take_snoc hq, ← hus]
  · have hke : k = ms.length := by omega
    subst hke
    rw [List.take_length] at hus
    subst hus
    refine Q.r ?_; (repeat (intro b1; refine Q.r ?_))
    exact N.r1 (RV.tmp rfl RV.nil) (Ent.refl _) ⟨a3, c3, rfl, rfl⟩
set_option maxHeartbeats 1000000 in
theorem plan_spec (ra : Option Addr) (rc : Nat) (xs : List NV) (ma : Option Addr) (mc : Nat) (ms : List (Int × NV)) (ea : Option Addr) (ec : Nat) (es : List (Int × NV)) (A : List HP) (h : RdS A ra xs.length 16 (xs.flatMap NV.cells)) (hm : RdS A ma ms.length 17 (ms.flatMap mcells)) (he : RdS A ea es.length 17 (es.flatMap mcells)) (h1 : xs.length ≤ 1000000) (h2 : ms.length ≤ 1000000) (h3 : es.length ≤ 1000000) :
    CallsS Tryz.prog 35 [.agg #[.slice ra xs.length rc, .slice ma ms.length mc, .slice ea es.length ec]] A (fun r L' => ∃ a1 c1 a2 c2 a3 c3, r = .agg #[.slice a1 xs.length c1, .slice a2 ms.length c2, .slice a3 es.length c3] ∧
      L' = slO 36 16 a1 xs.length c1 (xs.flatMap NV.cells) :: slO 135 17 a2 ms.length c2 (ms.flatMap mcells) :: slO 135 17 a3 es.length c3 (es.flatMap mcells) :: A) := by
  refine CallsS.of_body Tryz.func35 rfl rfl rfl ?_
  refine Q.r ?_; (repeat (intro b1; refine Q.r ?_))
  rename_i b0
  refine swp_cutB (σ := Option Addr × Nat) (fun s => [(1, .pointer (some ⟨b0, 0, none⟩)), (2, .pointer (some ⟨b1, 0, none⟩)), (3, .slice s.1 xs.length s.2)])
    (fun s => pt b1 (cl [.slice none 0 0, .slice none 0 0, .slice none 0 0] 97) :: pt b0 (cl [.slice ra xs.length rc, .slice ma ms.length mc, .slice ea es.length ec] 55) :: slO 36 16 s.1 xs.length s.2 (xs.flatMap NV.cells) :: A) (fun _ => True) ?_ ?_
  · refine swp_loop (σ := Nat × Option Addr × Nat × List NV) (fun s => [(1, .pointer (some ⟨b0, 0, none⟩)), (2, .pointer (some ⟨b1, 0, none⟩)), (7, .slice ra xs.length rc), (8, .int .i64 xs.length), (3, .slice s.2.1 s.2.2.2.length s.2.2.1), (9, .int .i64 s.1)])
      (fun s => slO 36 16 s.2.1 s.2.2.2.length s.2.2.1 (s.2.2.2.flatMap NV.cells) :: pt b1 (cl [.slice none 0 0, .slice none 0 0, .slice none 0 0] 97) :: pt b0 (cl [.slice ra xs.length rc, .slice ma ms.length mc, .slice ea es.length ec] 55) :: A)
      (fun s => s.1 ≤ xs.length ∧ s.2.2.2 = xs.take s.1) (fun s => xs.length - s.1) (0, none, 0, []) ⟨rfl, rfl, rfl, rfl, rfl, rfl, trivial⟩ slO_nil ⟨by omega, by simp⟩ ?_
    rintro ⟨k, a3, c3, us⟩ ⟨hk, hus⟩
    dsimp only at hk hus ⊢
    have hul : us.length = k := by rw [hus, List.length_take]; omega
    by_cases hlt : k < xs.length
    · obtain ⟨q, hq⟩ := mem_get hlt
      have hrs : RdS (slO 36 16 a3 us.length c3 (us.flatMap NV.cells) :: pt b1 (cl [.slice none 0 0, .slice none 0 0, .slice none 0 0] 97) :: pt b0 (cl [.slice ra xs.length rc, .slice ma ms.length mc, .slice ea es.length ec] 55) :: A) ra xs.length 16 (xs.flatMap NV.cells) := h.sub
      obtain ⟨b, oo, hia, hr⟩ := RdS.elem (g := NV.cells) (fun _ => rfl) hrs hq rfl
      clear hrs
      subst hia
      refine Q.r ?_; (repeat (intro b1; refine Q.r ?_))
      refine S.app rfl rfl (SrcS.sl RdC.row (by rfl) (by rfl)) (by rfl) (by omega) (by omega) (fun a7 c7 => ?_)
      refine Q.r ?_; (repeat (intro b1; refine Q.r ?_))
      refine ⟨(k + 1, a7, c7, us ++ [q]), ⟨rfl, rfl, rfl, rfl, congrArg some (by simp), rfl, trivial⟩, ?_, ⟨by dsimp only; omega, ?_⟩, by dsimp only; omega⟩
      · dsimp only
        rw [len_snoc, flat_snoc]
        exact Go.SX.Ent.go
      · dsimp only
        rw [take_snoc hq, ← hus]
    · have hke : k = xs.length := by omega
      subst hke
      rw [List.take_length] at hus
      subst hus
      refine Q.r ?_; (repeat (intro b1; refine Q.r ?_))
      exact ⟨(a3, c3), ⟨rfl, rfl, rfl, trivial⟩, by exact Go.SX.Ent.go, trivial⟩
  rintro ⟨a1, c1⟩ _
  refine Q.r ?_; (repeat (intro b1; refine Q.r ?_))
  refine Q.dgo [false, true] [3, 6, 8] [] [0, 1, 2, 4, 5, 3, 6, 7, 8] ?_
  refine Q.rd ?_; (repeat (intro b1; refine Q.rd ?_))
  refine D.e rfl rfl rfl ?_
  refine S.cr rfl (back_spec ma mc ms _ hm.sub h2) ?_
  rintro _ _ ⟨a2, c2, rfl, rfl⟩
  refine Q.r ?_; (repeat (intro b1; refine Q.r ?_))
  refine Q.rd ?_; (repeat (intro b1; refine Q.rd ?_))
  refine D.e rfl rfl rfl ?_
  refine S.cr rfl (back_spec ea ec es _ he.sub h3) ?_
  rintro _ _ ⟨a3, c3, rfl, rfl⟩
  refine Q.r ?_; (repeat (intro b1; refine Q.r ?_))
  refine Q.rd ?_; (repeat (intro b1; refine Q.rd ?_))
  refine Q.r ?_; (repeat (intro b1; refine Q.r ?_))
  refine N.r1 (by apply RV.cellN; rfl; exact RdC.row; rfl; exact RV.nil) ?_ ⟨a1, c1, a2, c2, a3, c3, rfl, rfl⟩
  exact Go.SX.Ent.go
end Go.Proofs.YtjidejcehmamkaaGreatDoor
namespace Go.Proofs.YtjidejcehmamkaaGreatDoor
open Go Go.SX
attribute [local irreducible] swp opsS thenS blockS retS CallsS St Ent YieldS anyS drawS
structure EO where
  fr : Int
  n : NV
  w : Bool
  r : Bool
  ask : Int
  id : Int
abbrev EO.cells (o : EO) : List Value := [.int .i64 o.fr, .int .u8 o.n.kind, .int .u64 o.n.txn, .int .u64 o.n.batch, .int .u64 o.n.stamp, .int .u64 o.n.after, .int .u64 o.n.mark, .int .u64 o.n.query, .int .u64 o.n.id, .int .i64 o.n.k, .int .i64 o.n.ef, .int .i64 o.n.code, .int .i64 o.n.who,
  .slice o.n.pa o.n.parts.length o.n.pc, .slice o.n.oa o.n.ops.length o.n.oc, .slice o.n.va o.n.vec.length o.n.vc, .slice o.n.ha o.n.hits.length o.n.hc, .bool o.w, .bool o.r, .int .u64 o.ask, .int .u64 o.id]
structure EOK (M : Nat → Option Obj) (o : EO) : Prop where
  n : okN M o.n
  c : CapN o.n
  u : NumN o.n
  uu : NumA o.n.abs
theorem EOK.mono {M M' : Nat → Option Obj} {o : EO} (h : EOK M o) (hl : leM M M') : EOK M' o := ⟨h.n.mono hl, h.c, h.u, h.uu⟩
theorem NumN.few {n' : NV} {n : NV} (h : NumN n) (e : n'.abs = n.abs.few) : NumN n' := by
  have e1 : n'.kind = n.kind := congrArg NA.kind e
  have e2 : n'.txn = n.txn := congrArg NA.txn e
  have e3 : n'.stamp = n.stamp := congrArg NA.stamp e
  have e4 : n'.mark = n.mark := congrArg NA.mark e
  have e5 : n'.after = n.after := congrArg NA.after e
  exact ⟨by rw [e1]; exact h.kind, by rw [e2]; exact h.txn, by rw [e3]; exact h.stamp, by rw [e4]; exact h.mark, by rw [e5]; exact h.after⟩
section
variable {n : Nat} {ops rest : List Oper} {Q : Post} {f : Env} {L L0 : List HP} {M : Nat → Option Obj}
theorem S.cm {d : Tmp} {ty : TypeId} {pos : String} {af : Array Edge} {g : FuncId} {xs : Array Operand} {ats : Array TypeId} {args : List Value} {R : Value → List HP → Prop} [hm : PickM L M L0] [he : Enters Tryz.prog g] (hx : argsL f xs.toList = some args) (hc : CallsS Tryz.prog g args (roM M :: L0) R) (hk : ∀ v L', R v L' → opsS Tryz.prog n ops rest Q (upd f d v) L') :
    opsS Tryz.prog n ops (⟨some d, .call ⟨.value (.func g), xs, ats⟩, ty, pos, af, none⟩ :: rest) Q f L := opsS_ent hm.ent (S.cr hx hc hk)
end
structure OnceI (j : JS) (k : Nat) (P : List (Int × Bool)) : Prop where
  ok : JOK j k
  kP : keysOK P
  pr : ∀ t, (lkL j.v.its t).isSome = true → lkL P t = some true
end Go.Proofs.YtjidejcehmamkaaGreatDoor
