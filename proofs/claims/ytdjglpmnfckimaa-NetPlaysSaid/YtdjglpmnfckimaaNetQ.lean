/- The document's net, walked: Drop, Take, Split, Post. No condition. -/
import Derived.Test.YtdjglpmnfckimaaNetP
import Derived.Test.YtdjglpmnfckimaaSxZ
set_option linter.unusedVariables false
set_option linter.unusedSimpArgs false
namespace Go.Proofs.Ytdjglpmnfckimaa
open Go Go.SX
attribute [local irreducible] swp opsS thenS blockS retS CallsS St Ent YieldS anyS drawS
theorem LV_one (vs : List LV) : (vs.flatMap LV.cells).all (·.oneCell') = true := List.all_eq_true.2 fun x hx => cells_one vs x hx
theorem cells_take (vs : List LV) (k : Nat) : (vs.flatMap LV.cells).take (k * 3) = (vs.take k).flatMap LV.cells := by
  induction vs generalizing k with
  | nil => simp
  | cons v vs ih =>
    cases k with
    | zero => simp
    | succ k => rw [List.flatMap_cons, Nat.succ_mul, Nat.add_comm, List.take_append, List.take_of_length_le (by rw [LV.cells_len]; omega), LV.cells_len, Nat.add_sub_cancel_left, ih, List.take_succ_cons, List.flatMap_cons]
theorem cells_drop (vs : List LV) (k : Nat) : (vs.flatMap LV.cells).drop (k * 3) = (vs.drop k).flatMap LV.cells := by
  induction vs generalizing k with
  | nil => simp
  | cons v vs ih =>
    cases k with
    | zero => simp
    | succ k => rw [List.flatMap_cons, Nat.succ_mul, Nat.add_comm, List.drop_append, List.drop_eq_nil_of_le (by rw [LV.cells_len]; omega), LV.cells_len, Nat.add_sub_cancel_left, ih, List.drop_succ_cons, List.nil_append]
set_option maxHeartbeats 1000000 in
theorem RDrop_arg (b : Nat) (nodes : Int) (ls : List Let) (ss : List (Int × Int)) (i : Int) (L : List HP) (hi : ¬ (0 ≤ i ∧ i < ls.length)) :
    CallsS Try.prog 23 [.pointer (some ⟨b, 0, none⟩), .int .i64 i] (refH b nodes ls ss :: L) (fun v L' => v = .int .i64 1 ∧ L' = refH b nodes ls ss :: L) := by
  refine calls_ref fun vs a c a2 c2 M t hvs hM hSM hcap => ?_
  have hvl := len_map hvs
  refine CallsS.of_body Try.func23 rfl rfl rfl ?_
  by_cases h0 : i < 0
  all_goals
    repeat (first | (refine GQ.y ?_; refine Q.y ?_) | refine N.tn ?_ | refine N.tr ?_ | refine N.te ?_ | refine N.bn ?_ | refine N.br ?_ | refine N.be ?_ | refine N.bx rfl ?_ | refine swp_seq ?_ | refine swp_region ?_ | refine opsS_nil ?_ | refine swp_ret ?_ | refine swp_skip ?_ | refine swp_exit ?_ | refine swp_block ?_ | refine swp_cond_true rfl ?_ | refine swp_cond_false rfl ?_ | (refine GQ.g ?_; refine Q.gq ?_) | (refine GQ.s ?_; refine Q.st ?_) | (refine GQ.g ?_; refine Q.gd ?_) | refine Q.ct rfl ?_ | refine Q.cf rfl ?_ | (refine GQ.a ?_; refine Q.al (fun b1 => ?_)))
    refine N.r1 (RV.tmp rfl RV.nil) (ref_shut vs hvs hM hSM hcap rfl rfl) ⟨rfl, rfl⟩
set_option maxHeartbeats 1000000 in
theorem RDrop_ok (b : Nat) (nodes : Int) (ls : List Let) (ss : List (Int × Int)) (k : Nat) (L : List HP) (hk : k < ls.length) (hl : ls.length ≤ 100000) :
    CallsS Try.prog 23 [.pointer (some ⟨b, 0, none⟩), .int .i64 k] (refH b nodes ls ss :: L) (fun v L' => v = .int .i64 0 ∧ L' = refH b nodes (ls.eraseIdx k) ss :: L) := by
  refine calls_ref fun vs a c a2 c2 M t hvs hM hSM hcap => ?_
  have hvl := len_map hvs
  obtain ⟨v, hv⟩ := mem_get (l := vs) (k := k) (by omega)
  obtain ⟨b2, o2, rfl, hr⟩ := hM.2.cm LV.cells_len hv rfl
  refine CallsS.of_body Try.func23 rfl rfl rfl ?_
  repeat (first | (refine GQ.y ?_; refine Q.y ?_) | refine N.tn ?_ | refine N.tr ?_ | refine N.te ?_ | refine N.bn ?_ | refine N.br ?_ | refine N.be ?_ | refine N.bx rfl ?_ | refine swp_seq ?_ | refine swp_region ?_ | refine opsS_nil ?_ | refine swp_ret ?_ | refine swp_skip ?_ | refine swp_exit ?_ | refine swp_block ?_ | refine swp_cond_true rfl ?_ | refine swp_cond_false rfl ?_ | (refine GQ.g ?_; refine Q.gq ?_) | (refine GQ.s ?_; refine Q.st ?_) | (refine GQ.g ?_; refine Q.gd ?_) | refine Q.ct rfl ?_ | refine Q.cf rfl ?_ | (refine GQ.a ?_; refine Q.al (fun b1 => ?_)))
  refine Q.dgo [true, false] [1, 8, 16, 19] [19] [0, 2, 3, 4, 5, 6, 7, 9, 10, 11, 12, 13, 14, 15, 1, 8, 16, 17, 18, 19] ?_
  repeat (first | refine D.endA ?_ | refine Q.dy rfl rfl rfl ?_ | refine Q.dp rfl rfl rfl ?_ | refine D.end_ ?_ | refine Q.endH ?_ | (refine D.e rfl rfl rfl ?_; (first | refine S.gskip1 rfl ?_ | refine S.gskip rfl ?_ | refine S.y (Y.gskipU rfl) ?_); refine opsS_nil ?_; refine N.tn ?_) | refine Q.dT rfl rfl rfl ?_ | refine Q.dF rfl rfl rfl ?_)
  refine D.yp rfl rfl rfl (Y.slT (h := k) rfl rfl rfl (by omega)) ?_
  repeat (first | refine D.endA ?_ | refine Q.dy rfl rfl rfl ?_ | refine Q.dp rfl rfl rfl ?_ | refine D.end_ ?_ | refine Q.endH ?_ | (refine D.e rfl rfl rfl ?_; (first | refine S.gskip1 rfl ?_ | refine S.gskip rfl ?_ | refine S.y (Y.gskipU rfl) ?_); refine opsS_nil ?_; refine N.tn ?_) | refine Q.dT rfl rfl rfl ?_ | refine Q.dF rfl rfl rfl ?_)
  refine D.yp rfl rfl rfl (Y.slF (l := k + 1) rfl rfl (by simp) (by omega)) ?_
  refine D.e rfl rfl rfl ?_
  refine S.bs rfl rfl rfl rfl rfl (fun b => ?_)
  refine opsS_ent (slO_fold (sz := 3) (m := 0) rfl) ?_
  repeat (first | (refine GQ.y ?_; refine Q.y ?_) | refine N.tn ?_ | refine N.tr ?_ | refine N.te ?_ | refine N.bn ?_ | refine N.br ?_ | refine N.be ?_ | refine N.bx rfl ?_ | refine swp_seq ?_ | refine swp_region ?_ | refine opsS_nil ?_ | refine swp_ret ?_ | refine swp_skip ?_ | refine swp_exit ?_ | refine swp_block ?_ | refine swp_cond_true rfl ?_ | refine swp_cond_false rfl ?_ | (refine GQ.g ?_; refine Q.gq ?_) | (refine GQ.s ?_; refine Q.st ?_))
  refine D.e rfl rfl rfl ?_
  have hrd : ∀ L, HasM M L → RdS L (some ⟨b2, o2, none⟩) vs.length 3 (vs.flatMap LV.cells) := fun L _ => hM.2.rd
  refine S.app0 rfl rfl rfl (SrcS.rd (RdS.take (k := k) (hrd _ inferInstance) (by omega)) ?_) (by rfl) (by omega) (by omega) (fun a5 c5 => ?_)
  · rw [cells_take]; exact LV_one _
  repeat (first | (refine GQ.y ?_; refine Q.y ?_) | refine N.tn ?_ | refine N.tr ?_ | refine N.te ?_ | refine N.bn ?_ | refine N.br ?_ | refine N.be ?_ | refine N.bx rfl ?_ | refine swp_seq ?_ | refine swp_region ?_ | refine opsS_nil ?_ | refine swp_ret ?_ | refine swp_skip ?_ | refine swp_exit ?_ | refine swp_block ?_ | refine swp_cond_true rfl ?_ | refine swp_cond_false rfl ?_ | (refine GQ.g ?_; refine Q.gq ?_) | (refine GQ.s ?_; refine Q.st ?_))
  refine D.e rfl rfl rfl ?_
  refine S.app rfl rfl (SrcS.rd (RdS.from2 (l := k + 1) (hrd _ inferInstance) (by omega) hcap) ?_) (by rfl) (by omega) (by omega) (fun a6 c6 => ?_)
  · rw [cells_drop]; exact LV_one _
  repeat (first | (refine GQ.y ?_; refine Q.y ?_) | refine N.tn ?_ | refine N.tr ?_ | refine N.te ?_ | refine N.bn ?_ | refine N.br ?_ | refine N.be ?_ | refine N.bx rfl ?_ | refine swp_seq ?_ | refine swp_region ?_ | refine opsS_nil ?_ | refine swp_ret ?_ | refine swp_skip ?_ | refine swp_exit ?_ | refine swp_block ?_ | refine swp_cond_true rfl ?_ | refine swp_cond_false rfl ?_ | (refine GQ.g ?_; refine Q.gq ?_) | (refine GQ.s ?_; refine Q.st ?_))
  repeat (first | refine D.endA ?_ | refine Q.dy rfl rfl rfl ?_ | refine Q.dp rfl rfl rfl ?_ | refine D.end_ ?_ | refine Q.endH ?_ | (refine D.e rfl rfl rfl ?_; (first | refine S.gskip1 rfl ?_ | refine S.gskip rfl ?_ | refine S.y (Y.gskipU rfl) ?_); refine opsS_nil ?_; refine N.tn ?_) | refine Q.dT rfl rfl rfl ?_ | refine Q.dF rfl rfl rfl ?_)
  refine Q.dc rfl rfl rfl rfl ?_
  repeat (first | (refine GQ.y ?_; refine Q.y ?_) | refine N.tn ?_ | refine N.tr ?_ | refine N.te ?_ | refine N.bn ?_ | refine N.br ?_ | refine N.be ?_ | refine N.bx rfl ?_ | refine swp_seq ?_ | refine swp_region ?_ | refine opsS_nil ?_ | refine swp_ret ?_ | refine swp_skip ?_ | refine swp_exit ?_ | refine swp_block ?_ | refine swp_cond_true rfl ?_ | refine swp_cond_false rfl ?_ | (refine GQ.g ?_; refine Q.gq ?_) | (refine GQ.s ?_; refine Q.st ?_))
  repeat (first | refine D.endA ?_ | refine Q.dy rfl rfl rfl ?_ | refine Q.dp rfl rfl rfl ?_ | refine D.end_ ?_ | refine Q.endH ?_ | (refine D.e rfl rfl rfl ?_; (first | refine S.gskip1 rfl ?_ | refine S.gskip rfl ?_ | refine S.y (Y.gskipU rfl) ?_); refine opsS_nil ?_; refine N.tn ?_) | refine Q.dT rfl rfl rfl ?_ | refine Q.dF rfl rfl rfl ?_)
  first | refine N.tn ?_ | skip
  refine swp_cap a6 fun hc6 => swp_abs a6 fun M2 hle hsl => ?_
  repeat (first | (refine GQ.y ?_; refine Q.y ?_) | refine N.tn ?_ | refine N.tr ?_ | refine N.te ?_ | refine N.bn ?_ | refine N.br ?_ | refine N.be ?_ | refine N.bx rfl ?_ | refine swp_seq ?_ | refine swp_region ?_ | refine opsS_nil ?_ | refine swp_ret ?_ | refine swp_skip ?_ | refine swp_exit ?_ | refine swp_block ?_ | refine swp_cond_true rfl ?_ | refine swp_cond_false rfl ?_ | (refine GQ.g ?_; refine Q.gq ?_) | (refine GQ.s ?_; refine Q.st ?_))
  rw [cells_take, cells_drop, ← List.flatMap_append, take_drop_erase] at hsl
  have hel := List.length_eraseIdx_of_lt (l := vs) (i := k) (by omega)
  have e1 : k + (vs.length - (k + 1)) = (vs.eraseIdx k).length := by omega
  rw [e1] at hsl
  refine N.r1 (RV.tmp rfl RV.nil) ?_ ⟨rfl, rfl⟩
  refine Ent.trans ?_ (ref_shut (a := a6) (m := k + (vs.length - (k + 1))) (c := c6) (a2 := a2) (c2 := c2) (t := t) (M := M2) (vs.eraseIdx k) (by rw [abs_erase, hvs]) ⟨fun v hv => (hM.1 v (List.mem_of_mem_eraseIdx hv)).mono hle, hsl⟩ (hSM.mono hle) (by omega) e1 rfl)
  repeat (first | exact Ent.refl _ | exact Ent.nil | refine Ent.pick ?_ | refine Ent.nilS ?_ | refine Ent.nilM ?_ | refine Ent.drop ?_)
/-- A letter that is told apart from the net. -/
def lvZ : LV := ⟨0, 0, none, 0, []⟩
set_option maxHeartbeats 1000000 in
theorem RTake_arg (b : Nat) (nodes : Int) (ls : List Let) (ss : List (Int × Int)) (i : Int) (stays : Bool) (L : List HP) (hi : ¬ (0 ≤ i ∧ i < ls.length)) :
    CallsS Try.prog 22 [.pointer (some ⟨b, 0, none⟩), .int .i64 i, .bool stays] (refH b nodes ls ss :: L) (fun v L' => v = .tuple #[zeroL, .int .i64 1] ∧ L' = refH b nodes ls ss :: L) := by
  refine calls_ref fun vs a c a2 c2 M t hvs hM hSM hcap => ?_
  have hvl := len_map hvs
  refine CallsS.of_body Try.func22 rfl rfl rfl ?_
  by_cases h0 : i < 0
  all_goals
    repeat (first | (refine GQ.y ?_; refine Q.y ?_) | refine N.tn ?_ | refine N.tr ?_ | refine N.te ?_ | refine N.bn ?_ | refine N.br ?_ | refine N.be ?_ | refine N.bx rfl ?_ | refine swp_seq ?_ | refine swp_region ?_ | refine opsS_nil ?_ | refine swp_ret ?_ | refine swp_skip ?_ | refine swp_exit ?_ | refine swp_block ?_ | refine swp_cond_true rfl ?_ | refine swp_cond_false rfl ?_ | (refine GQ.g ?_; refine Q.gq ?_) | (refine GQ.s ?_; refine Q.st ?_) | (refine GQ.g ?_; refine Q.gd ?_) | refine Q.ct rfl ?_ | refine Q.cf rfl ?_ | (refine GQ.a ?_; refine Q.al (fun b1 => ?_)))
    refine N.r2 (by apply RV.cellN; rfl; exact RdC.row; rfl; exact RV.tmp rfl RV.nil) ?_ ⟨rfl, rfl⟩
    refine Ent.trans ?_ (ref_shut (c2 := c2) (t := t) vs hvs hM hSM hcap rfl rfl)
    repeat (first | exact Ent.refl _ | exact Ent.nil | refine Ent.pick ?_ | refine Ent.nilS ?_ | refine Ent.nilM ?_ | refine Ent.drop ?_)
set_option maxHeartbeats 1000000 in
theorem RTake_state (b : Nat) (nodes : Int) (ls : List Let) (ss : List (Int × Int)) (k : Nat) (stays : Bool) (L : List HP) (hk : k < ls.length) (hl : ls.length ≤ 100000) (hss : ss.length ≤ 100000) (ho : ropen ls ss k = false) :
    CallsS Try.prog 22 [.pointer (some ⟨b, 0, none⟩), .int .i64 k, .bool stays] (refH b nodes ls ss :: L) (fun v L' => v = .tuple #[zeroL, .int .i64 10] ∧ L' = refH b nodes ls ss :: L) := by
  refine calls_ref fun vs a c a2 c2 M t hvs hM hSM hcap => ?_
  have hvl := len_map hvs
  refine CallsS.of_body Try.func22 rfl rfl rfl ?_
  repeat (first | (refine GQ.y ?_; refine Q.y ?_) | refine N.tn ?_ | refine N.tr ?_ | refine N.te ?_ | refine N.bn ?_ | refine N.br ?_ | refine N.be ?_ | refine N.bx rfl ?_ | refine swp_seq ?_ | refine swp_region ?_ | refine opsS_nil ?_ | refine swp_ret ?_ | refine swp_skip ?_ | refine swp_exit ?_ | refine swp_block ?_ | refine swp_cond_true rfl ?_ | refine swp_cond_false rfl ?_ | (refine GQ.g ?_; refine Q.gq ?_) | (refine GQ.s ?_; refine Q.st ?_) | (refine GQ.g ?_; refine Q.gd ?_) | refine Q.ct rfl ?_ | refine Q.cf rfl ?_ | (refine GQ.a ?_; refine Q.al (fun b1 => ?_)))
  refine opsS_ent (L' := refH b nodes ls ss :: pt b1 (cl [.int .i64 0, .int .i64 0, .slice none 0 0] 31) :: L) ?_ ?_
  · refine Ent.trans ?_ (ref_shut (c2 := c2) (t := t) vs hvs hM hSM hcap rfl rfl)
    repeat (first | exact Ent.refl _ | exact Ent.nil | refine Ent.pick ?_ | refine Ent.nilS ?_ | refine Ent.nilM ?_ | refine Ent.drop ?_)
  refine S.cr rfl (ROpen_spec b nodes ls ss k _ hss) ?_
  rintro _ _ ⟨rfl, rfl⟩
  rw [ho]
  repeat (first | (refine GQ.y ?_; refine Q.y ?_) | refine N.tn ?_ | refine N.tr ?_ | refine N.te ?_ | refine N.bn ?_ | refine N.br ?_ | refine N.be ?_ | refine N.bx rfl ?_ | refine swp_seq ?_ | refine swp_region ?_ | refine opsS_nil ?_ | refine swp_ret ?_ | refine swp_skip ?_ | refine swp_exit ?_ | refine swp_block ?_ | refine swp_cond_true rfl ?_ | refine swp_cond_false rfl ?_ | (refine GQ.g ?_; refine Q.gq ?_) | (refine GQ.s ?_; refine Q.st ?_) | (refine GQ.g ?_; refine Q.gd ?_) | refine Q.ct rfl ?_ | refine Q.cf rfl ?_ | (refine GQ.a ?_; refine Q.al (fun b1 => ?_)))
  refine N.r2 (by apply RV.cellN; rfl; exact RdC.row; rfl; exact RV.tmp rfl RV.nil) ?_ ⟨rfl, rfl⟩
  repeat (first | exact Ent.refl _ | exact Ent.nil | refine Ent.pick ?_ | refine Ent.nilS ?_ | refine Ent.nilM ?_ | refine Ent.drop ?_)
set_option maxHeartbeats 1000000 in
theorem RTake_ok (b : Nat) (nodes : Int) (ls : List Let) (ss : List (Int × Int)) (k : Nat) (l : Let) (stays : Bool) (L : List HP) (hl : ls[k]? = some l) (hll : ls.length ≤ 100000) (hss : ss.length ≤ 100000) (ho : ropen ls ss k = true) :
    CallsS Try.prog 22 [.pointer (some ⟨b, 0, none⟩), .int .i64 k, .bool stays] (refH b nodes ls ss :: L)
      (fun v L' => ∃ (x : LV) (M : Nat → Option Obj), x.abs = l ∧ v = .tuple #[.agg x.cells.toArray, .int .i64 0] ∧ SlM M x.a x.body.length 1 (x.body.map B) ∧ L' = roM M :: refH b nodes (if stays then ls else ls.eraseIdx k) ss :: L) := by
  have hk : k < ls.length := (List.getElem?_eq_some_iff.1 hl).1
  refine calls_ref fun vs a c a2 c2 M t hvs hM hSM hcap => ?_
  have hvl := len_map hvs
  obtain ⟨v, hv⟩ := mem_get (l := vs) (k := k) (by omega)
  have hlv := fst_map hvs hv
  rw [hl] at hlv
  obtain rfl : l = v.abs := by simpa using hlv
  obtain ⟨b2, o2, rfl, hr⟩ := hM.2.cm LV.cells_len hv rfl
  refine CallsS.of_body Try.func22 rfl rfl rfl ?_
  refine swp_dup ?_
  repeat (first | (refine GQ.y ?_; refine Q.y ?_) | refine N.tn ?_ | refine N.tr ?_ | refine N.te ?_ | refine N.bn ?_ | refine N.br ?_ | refine N.be ?_ | refine N.bx rfl ?_ | refine swp_seq ?_ | refine swp_region ?_ | refine opsS_nil ?_ | refine swp_ret ?_ | refine swp_skip ?_ | refine swp_exit ?_ | refine swp_block ?_ | refine swp_cond_true rfl ?_ | refine swp_cond_false rfl ?_ | (refine GQ.g ?_; refine Q.gq ?_) | (refine GQ.s ?_; refine Q.st ?_) | (refine GQ.g ?_; refine Q.gd ?_) | refine Q.ct rfl ?_ | refine Q.cf rfl ?_ | (refine GQ.a ?_; refine Q.al (fun b1 => ?_)))
  refine opsS_ent (L' := refH b nodes ls ss :: pt b1 (cl [.int .i64 0, .int .i64 0, .slice none 0 0] 31) :: roM M :: L) ?_ ?_
  · refine Ent.trans ?_ (ref_shut (c2 := c2) (t := t) vs hvs hM hSM hcap rfl rfl)
    repeat (first | exact Ent.refl _ | exact Ent.nil | refine Ent.pick ?_ | refine Ent.nilS ?_ | refine Ent.nilM ?_ | refine Ent.drop ?_)
  refine S.cr rfl (ROpen_spec b nodes ls ss k _ hss) ?_
  rintro _ _ ⟨rfl, rfl⟩
  rw [ho]
  refine opsS_ref fun vs' a' c' a2' c2' M' t' hvs' hM' hSM' hcap' => ?_
  have hvl' := len_map hvs'
  obtain ⟨v', hv'⟩ := mem_get (l := vs') (k := k) (by omega)
  have hlv' := fst_map hvs' hv'
  rw [hl] at hlv'
  have habs : v'.abs = v.abs := by simpa using hlv'.symm
  obtain ⟨b3, o3, rfl, hr'⟩ := hM'.2.cm LV.cells_len hv' rfl
  cases stays with
  | true =>
    refine opsS_dup ?_
    repeat (first | (refine GQ.y ?_; refine Q.y ?_) | refine N.tn ?_ | refine N.tr ?_ | refine N.te ?_ | refine N.bn ?_ | refine N.br ?_ | refine N.be ?_ | refine N.bx rfl ?_ | refine swp_seq ?_ | refine swp_region ?_ | refine opsS_nil ?_ | refine swp_ret ?_ | refine swp_skip ?_ | refine swp_exit ?_ | refine swp_block ?_ | refine swp_cond_true rfl ?_ | refine swp_cond_false rfl ?_ | (refine GQ.g ?_; refine Q.gq ?_) | (refine GQ.s ?_; refine Q.st ?_) | (refine GQ.g ?_; refine Q.gd ?_) | refine Q.ct rfl ?_ | refine Q.cf rfl ?_ | (refine GQ.a ?_; refine Q.al (fun b1 => ?_)))
    refine N.r2 (by apply RV.cellN; rfl; exact RdC.row; rfl; exact RV.tmp rfl RV.nil) ?_ ⟨v', M', habs, rfl, hM'.1 v' (List.mem_of_getElem? hv'), rfl⟩
    refine Ent.trans ?_ (ref_shut (c2 := c2') (t := t') vs' hvs' hM' hSM' hcap' rfl rfl).cons
    repeat (first | exact Ent.refl _ | exact Ent.nil | refine Ent.pick ?_ | refine Ent.nilS ?_ | refine Ent.nilM ?_ | refine Ent.drop ?_)
  | false =>
    refine opsS_dup ?_
    repeat (first | (refine GQ.y ?_; refine Q.y ?_) | refine N.tn ?_ | refine N.tr ?_ | refine N.te ?_ | refine N.bn ?_ | refine N.br ?_ | refine N.be ?_ | refine N.bx rfl ?_ | refine swp_seq ?_ | refine swp_region ?_ | refine opsS_nil ?_ | refine swp_ret ?_ | refine swp_skip ?_ | refine swp_exit ?_ | refine swp_block ?_ | refine swp_cond_true rfl ?_ | refine swp_cond_false rfl ?_ | (refine GQ.g ?_; refine Q.gq ?_) | (refine GQ.s ?_; refine Q.st ?_) | (refine GQ.g ?_; refine Q.gd ?_) | refine Q.ct rfl ?_ | refine Q.cf rfl ?_ | (refine GQ.a ?_; refine Q.al (fun b1 => ?_)))
    rename_i b0
    refine opsS_ent (L' := refH b nodes ls ss :: pt b0 (cl [.int .i64 0, .int .i64 0, .slice none 0 0] 31) :: pt b1 (cl v'.cells 31) :: roM M' :: roM M :: L) ?_ ?_
    · refine Ent.trans ?_ (ref_shut (c2 := c2') (t := t') vs' hvs' hM' hSM' hcap' rfl rfl)
      repeat (first | exact Ent.refl _ | exact Ent.nil | refine Ent.pick ?_ | refine Ent.nilS ?_ | refine Ent.nilM ?_ | refine Ent.drop ?_)
    refine S.cr rfl (RDrop_ok b nodes ls ss k _ hk hll) ?_
    rintro _ _ ⟨rfl, rfl⟩
    repeat (first | (refine GQ.y ?_; refine Q.y ?_) | refine N.tn ?_ | refine N.tr ?_ | refine N.te ?_ | refine N.bn ?_ | refine N.br ?_ | refine N.be ?_ | refine N.bx rfl ?_ | refine swp_seq ?_ | refine swp_region ?_ | refine opsS_nil ?_ | refine swp_ret ?_ | refine swp_skip ?_ | refine swp_exit ?_ | refine swp_block ?_ | refine swp_cond_true rfl ?_ | refine swp_cond_false rfl ?_ | (refine GQ.g ?_; refine Q.gq ?_) | (refine GQ.s ?_; refine Q.st ?_) | (refine GQ.g ?_; refine Q.gd ?_) | refine Q.ct rfl ?_ | refine Q.cf rfl ?_ | (refine GQ.a ?_; refine Q.al (fun b1 => ?_)))
    refine N.r2 (by apply RV.cellN; rfl; exact RdC.row; rfl; exact RV.tmp rfl RV.nil) ?_ ⟨v', M', habs, rfl, hM'.1 v' (List.mem_of_getElem? hv'), rfl⟩
    simp only [Bool.false_eq_true, if_false]
    repeat (first | exact Ent.refl _ | exact Ent.nil | refine Ent.pick ?_ | refine Ent.nilS ?_ | refine Ent.nilM ?_ | refine Ent.drop ?_)
/-- The document's pairs of nodes that are split, behind a call. -/
def splitR (ss : List (Int × Int)) (x y : Int) (v : Bool) : List (Int × Int) := ss.filter (fun p => !decide (p = (min x y, max x y))) ++ (if v then [(min x y, max x y)] else [])
set_option maxHeartbeats 1000000 in
theorem RSplit_bad (b : Nat) (nodes : Int) (ls : List Let) (ss : List (Int × Int)) (x y : Int) (v : Bool) (L : List HP) (h : ¬ (0 ≤ x ∧ 0 ≤ y ∧ x < nodes ∧ y < nodes ∧ x ≠ y)) :
    CallsS Try.prog 24 [.pointer (some ⟨b, 0, none⟩), .int .i64 x, .int .i64 y, .bool v] (refH b nodes ls ss :: L) (fun r L' => r = .int .i64 1 ∧ L' = refH b nodes ls ss :: L) := by
  refine calls_ref fun vs a c a2 c2 M t hvs hM hSM hcap => ?_
  refine CallsS.of_body Try.func24 rfl rfl rfl ?_
  repeat (first | (refine GQ.y ?_; refine Q.y ?_) | refine N.tn ?_ | refine N.tr ?_ | refine N.te ?_ | refine N.bn ?_ | refine N.br ?_ | refine N.be ?_ | refine N.bx rfl ?_ | refine swp_seq ?_ | refine swp_region ?_ | refine opsS_nil ?_ | refine swp_ret ?_ | refine swp_skip ?_ | refine swp_exit ?_ | refine swp_block ?_ | refine swp_cond_true rfl ?_ | refine swp_cond_false rfl ?_ | (refine GQ.g ?_; refine Q.gq ?_) | (refine GQ.s ?_; refine Q.st ?_) | (refine GQ.g ?_; refine Q.gd ?_) | refine Q.ct rfl ?_ | refine Q.cf rfl ?_ | (refine GQ.a ?_; refine Q.al (fun b1 => ?_)))
  refine S.cr rfl (rpair_spec b nodes x y _ t _) ?_
  rintro _ _ ⟨rfl, rfl⟩
  rw [decide_eq_false h]
  repeat (first | (refine GQ.y ?_; refine Q.y ?_) | refine N.tn ?_ | refine N.tr ?_ | refine N.te ?_ | refine N.bn ?_ | refine N.br ?_ | refine N.be ?_ | refine N.bx rfl ?_ | refine swp_seq ?_ | refine swp_region ?_ | refine opsS_nil ?_ | refine swp_ret ?_ | refine swp_skip ?_ | refine swp_exit ?_ | refine swp_block ?_ | refine swp_cond_true rfl ?_ | refine swp_cond_false rfl ?_ | (refine GQ.g ?_; refine Q.gq ?_) | (refine GQ.s ?_; refine Q.st ?_) | (refine GQ.g ?_; refine Q.gd ?_) | refine Q.ct rfl ?_ | refine Q.cf rfl ?_ | (refine GQ.a ?_; refine Q.al (fun b1 => ?_)))
  refine N.r1 (RV.tmp rfl RV.nil) (ref_shut vs hvs hM hSM hcap rfl rfl) ⟨rfl, rfl⟩
theorem pair_one (l : List (Int × Int)) : (l.flatMap pairC).all (·.oneCell') = true := List.all_eq_true.2 fun x hx => by
  simp only [List.mem_flatMap, pairC, List.mem_cons, List.not_mem_nil, or_false] at hx
  obtain ⟨v, _, rfl | rfl⟩ := hx <;> rfl
set_option maxHeartbeats 2000000 in
theorem RSplit_ok (b : Nat) (nodes : Int) (ls : List Let) (ss : List (Int × Int)) (x y : Int) (v : Bool) (L : List HP) (h : 0 ≤ x ∧ 0 ≤ y ∧ x < nodes ∧ y < nodes ∧ x ≠ y) (hss : ss.length ≤ 100000) :
    CallsS Try.prog 24 [.pointer (some ⟨b, 0, none⟩), .int .i64 x, .int .i64 y, .bool v] (refH b nodes ls ss :: L) (fun r L' => r = .int .i64 0 ∧ L' = refH b nodes ls (splitR ss x y v) :: L) := by
  refine calls_ref fun vs a c a2 c2 M t hvs hM hSM hcap => ?_
  refine CallsS.of_body Try.func24 rfl rfl rfl ?_
  repeat (first | (refine GQ.y ?_; refine Q.y ?_) | refine N.tn ?_ | refine N.tr ?_ | refine N.te ?_ | refine N.bn ?_ | refine N.br ?_ | refine N.be ?_ | refine N.bx rfl ?_ | refine swp_seq ?_ | refine swp_region ?_ | refine opsS_nil ?_ | refine swp_ret ?_ | refine swp_skip ?_ | refine swp_exit ?_ | refine swp_block ?_ | refine swp_cond_true rfl ?_ | refine swp_cond_false rfl ?_ | (refine GQ.g ?_; refine Q.gq ?_) | (refine GQ.s ?_; refine Q.st ?_) | (refine GQ.g ?_; refine Q.gd ?_) | refine Q.ct rfl ?_ | refine Q.cf rfl ?_ | (refine GQ.a ?_; refine Q.al (fun b1 => ?_)))
  refine S.cr rfl (rpair_spec b nodes x y _ t _) ?_
  rintro _ _ ⟨rfl, rfl⟩
  rw [decide_eq_true h]
  repeat (first | (refine GQ.y ?_; refine Q.y ?_) | refine N.tn ?_ | refine N.tr ?_ | refine N.te ?_ | refine N.bn ?_ | refine N.br ?_ | refine N.be ?_ | refine N.bx rfl ?_ | refine swp_seq ?_ | refine swp_region ?_ | refine opsS_nil ?_ | refine swp_ret ?_ | refine swp_skip ?_ | refine swp_exit ?_ | refine swp_block ?_ | refine swp_cond_true rfl ?_ | refine swp_cond_false rfl ?_ | (refine GQ.g ?_; refine Q.gq ?_) | (refine GQ.s ?_; refine Q.st ?_) | (refine GQ.g ?_; refine Q.gd ?_) | refine Q.ct rfl ?_ | refine Q.cf rfl ?_ | (refine GQ.a ?_; refine Q.al (fun b1 => ?_)))
  refine swp_loop (σ := Nat × Option Addr × Nat × List (Int × Int)) (fun s => [(0, .pointer (some ⟨b, 0, none⟩)), (1, .int .i64 x), (2, .int .i64 y), (3, .bool v), (22, .slice a2 ss.length c2), (23, .int .i64 ss.length), (9, .slice s.2.1 s.2.2.2.length s.2.2.1), (24, .int .i64 s.1)])
    (fun s => slO 74 2 s.2.1 s.2.2.2.length s.2.2.1 (s.2.2.2.flatMap pairC) :: pt b (cl [.int .i64 nodes, .slice a vs.length c, .slice a2 ss.length c2] t) :: roM M :: L)
    (fun s => s.1 ≤ ss.length ∧ s.2.2.2 = (ss.take s.1).filter (fun p => !decide (p = (min x y, max x y)))) (fun s => ss.length - s.1) (0, none, 0, []) ⟨rfl, rfl, rfl, rfl, rfl, rfl, rfl, rfl, trivial⟩ ?_ ⟨by omega, by simp⟩ ?_
  · refine Ent.trans ?_ slO_nil
    (try dsimp only); repeat (first | exact Ent.refl _ | exact Ent.nil | refine Ent.pick ?_ | refine Ent.nilS ?_ | refine Ent.nilM ?_ | refine Ent.drop ?_)
  rintro ⟨j, a9, c9, out⟩ ⟨hj, hout⟩
  dsimp only at hj hout ⊢
  have hol : out.length ≤ 100000 := by
    have := List.length_filter_le (fun p => !decide (p = (min x y, max x y))) (ss.take j)
    rw [← hout, List.length_take] at this; omega
  repeat (first | (refine GQ.y ?_; refine Q.y ?_) | refine N.tn ?_ | refine N.tr ?_ | refine N.te ?_ | refine N.bn ?_ | refine N.br ?_ | refine N.be ?_ | refine N.bx rfl ?_ | refine swp_seq ?_ | refine swp_region ?_ | refine opsS_nil ?_ | refine swp_ret ?_ | refine swp_skip ?_ | refine swp_exit ?_ | refine swp_block ?_ | refine swp_cond_true rfl ?_ | refine swp_cond_false rfl ?_ | (refine GQ.g ?_; refine Q.gq ?_) | (refine GQ.s ?_; refine Q.st ?_))
  refine swp_cond rfl (fun hlt => ?_) (fun hge => ?_)
  · have hlt : j < ss.length := by simpa using hlt
    obtain ⟨p, hp⟩ := mem_get hlt
    obtain ⟨b3, o3, rfl, hr3⟩ := hSM.cm pairC_len hp rfl
    obtain ⟨p1, p2⟩ := p
    have hkeep : ¬ (p1 = min x y ∧ p2 = max x y) → (ss.take (j + 1)).filter (fun p => !decide (p = (min x y, max x y))) = out ++ [(p1, p2)] := fun hne => by
      rw [take_snoc hp, List.filter_append, ← hout]
      simp [hne]
    by_cases hp1 : p1 = min x y
    case' pos => by_cases hp2 : p2 = max x y
    all_goals repeat (first | (refine GQ.y ?_; refine Q.y ?_) | refine N.tn ?_ | refine N.tr ?_ | refine N.te ?_ | refine N.bn ?_ | refine N.br ?_ | refine N.be ?_ | refine N.bx rfl ?_ | refine swp_seq ?_ | refine swp_region ?_ | refine opsS_nil ?_ | refine swp_ret ?_ | refine swp_skip ?_ | refine swp_exit ?_ | refine swp_block ?_ | refine swp_cond_true rfl ?_ | refine swp_cond_false rfl ?_ | (refine GQ.g ?_; refine Q.gq ?_) | (refine GQ.s ?_; refine Q.st ?_) | (refine GQ.g ?_; refine Q.gd ?_) | refine Q.ct rfl ?_ | refine Q.cf rfl ?_ | (refine GQ.a ?_; refine Q.al (fun b1 => ?_)))
    · refine ⟨(j + 1, a9, c9, out), ⟨rfl, rfl, rfl, rfl, rfl, rfl, rfl, congrArg some (congrArg (Value.int .i64) (by simp)), trivial⟩, by (try dsimp only); repeat (first | exact Ent.refl _ | exact Ent.nil | refine Ent.pick ?_ | refine Ent.nilS ?_ | refine Ent.nilM ?_ | refine Ent.drop ?_), ⟨by dsimp only; omega, ?_⟩, by dsimp only; omega⟩
      dsimp only
      rw [take_snoc hp, List.filter_append, ← hout]
      simp [hp1, hp2]
    all_goals
      refine S.app rfl rfl (SrcS.sl RdC.row (by rfl) (by rfl)) (by rfl) (by omega) (by omega) (fun a5 c5 => ?_)
      repeat (first | (refine GQ.y ?_; refine Q.y ?_) | refine N.tn ?_ | refine N.tr ?_ | refine N.te ?_ | refine N.bn ?_ | refine N.br ?_ | refine N.be ?_ | refine N.bx rfl ?_ | refine swp_seq ?_ | refine swp_region ?_ | refine opsS_nil ?_ | refine swp_ret ?_ | refine swp_skip ?_ | refine swp_exit ?_ | refine swp_block ?_ | refine swp_cond_true rfl ?_ | refine swp_cond_false rfl ?_ | (refine GQ.g ?_; refine Q.gq ?_) | (refine GQ.s ?_; refine Q.st ?_) | (refine GQ.g ?_; refine Q.gd ?_) | refine Q.ct rfl ?_ | refine Q.cf rfl ?_ | (refine GQ.a ?_; refine Q.al (fun b1 => ?_)))
      refine ⟨(j + 1, a5, c5, out ++ [(p1, p2)]), ⟨rfl, rfl, rfl, rfl, rfl, rfl, congrArg some (by simp), congrArg some (congrArg (Value.int .i64) (by simp)), trivial⟩, ?_, ⟨by dsimp only; omega, ?_⟩, by dsimp only; omega⟩
      · simp only [len_snoc, flat_snoc, pairC]
        repeat (first | exact Ent.refl _ | exact Ent.nil | refine Ent.pick ?_ | refine Ent.nilS ?_ | refine Ent.nilM ?_ | refine Ent.drop ?_)
      · exact (hkeep (by omega)).symm
  · have hj2 : j = ss.length := by
      have : ¬ j < ss.length := by simpa using hge
      omega
    subst hj2
    rw [List.take_length] at hout
    cases v with
    | false =>
      refine swp_abs a9 fun M2 hle hsl => ?_
      repeat (first | (refine GQ.y ?_; refine Q.y ?_) | refine N.tn ?_ | refine N.tr ?_ | refine N.te ?_ | refine N.bn ?_ | refine N.br ?_ | refine N.be ?_ | refine N.bx rfl ?_ | refine swp_seq ?_ | refine swp_region ?_ | refine opsS_nil ?_ | refine swp_ret ?_ | refine swp_skip ?_ | refine swp_exit ?_ | refine swp_block ?_ | refine swp_cond_true rfl ?_ | refine swp_cond_false rfl ?_ | (refine GQ.g ?_; refine Q.gq ?_) | (refine GQ.s ?_; refine Q.st ?_) | (refine GQ.g ?_; refine Q.gd ?_) | refine Q.ct rfl ?_ | refine Q.cf rfl ?_ | (refine GQ.a ?_; refine Q.al (fun b1 => ?_)))
      refine N.r1 (RV.tmp rfl RV.nil) ?_ ⟨rfl, rfl⟩
      have e : splitR ss x y false = out := by simp [splitR, hout]
      rw [e]
      refine Ent.trans ?_ (ref_shut (c2 := c9) (t := t) (M := M2) vs hvs (hM.mono hle) hsl hcap rfl rfl)
      repeat (first | exact Ent.refl _ | exact Ent.nil | refine Ent.pick ?_ | refine Ent.nilS ?_ | refine Ent.nilM ?_ | refine Ent.drop ?_)
    | true =>
      repeat (first | (refine GQ.y ?_; refine Q.y ?_) | refine N.tn ?_ | refine N.tr ?_ | refine N.te ?_ | refine N.bn ?_ | refine N.br ?_ | refine N.be ?_ | refine N.bx rfl ?_ | refine swp_seq ?_ | refine swp_region ?_ | refine opsS_nil ?_ | refine swp_ret ?_ | refine swp_skip ?_ | refine swp_exit ?_ | refine swp_block ?_ | refine swp_cond_true rfl ?_ | refine swp_cond_false rfl ?_ | (refine GQ.g ?_; refine Q.gq ?_) | (refine GQ.s ?_; refine Q.st ?_) | (refine GQ.g ?_; refine Q.gd ?_) | refine Q.ct rfl ?_ | refine Q.cf rfl ?_ | (refine GQ.a ?_; refine Q.al (fun b1 => ?_)))
      refine S.app rfl rfl (SrcS.sl RdC.row (by rfl) (by rfl)) (by rfl) (by omega) (by omega) (fun a5 c5 => ?_)
      refine opsS_abs a5 fun M2 hle hsl => ?_
      repeat (first | (refine GQ.y ?_; refine Q.y ?_) | refine N.tn ?_ | refine N.tr ?_ | refine N.te ?_ | refine N.bn ?_ | refine N.br ?_ | refine N.be ?_ | refine N.bx rfl ?_ | refine swp_seq ?_ | refine swp_region ?_ | refine opsS_nil ?_ | refine swp_ret ?_ | refine swp_skip ?_ | refine swp_exit ?_ | refine swp_block ?_ | refine swp_cond_true rfl ?_ | refine swp_cond_false rfl ?_ | (refine GQ.g ?_; refine Q.gq ?_) | (refine GQ.s ?_; refine Q.st ?_) | (refine GQ.g ?_; refine Q.gd ?_) | refine Q.ct rfl ?_ | refine Q.cf rfl ?_ | (refine GQ.a ?_; refine Q.al (fun b1 => ?_)))
      refine N.r1 (RV.tmp rfl RV.nil) ?_ ⟨rfl, rfl⟩
      have e : splitR ss x y true = out ++ [(min x y, max x y)] := by simp [splitR, hout]
      rw [e]
      refine Ent.trans ?_ (ref_shut (a2 := a5) (m2 := out.length + 1) (c2 := c5) (t := t) (M := M2) vs hvs (hM.mono hle) (by rw [len_snoc, flat_snoc]; exact hsl) hcap rfl (by simp))
      repeat (first | exact Ent.refl _ | exact Ent.nil | refine Ent.pick ?_ | refine Ent.nilS ?_ | refine Ent.nilM ?_ | refine Ent.drop ?_)
end Go.Proofs.Ytdjglpmnfckimaa
