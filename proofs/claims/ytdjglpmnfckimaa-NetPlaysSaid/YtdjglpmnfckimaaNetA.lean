/- The net's functions, walked: bytes.Clone and the pair test. No condition. -/
import Derived.Test.YtdjglpmnfckimaaTy
import Derived.Test.YtdjglpmnfckimaaSxX
set_option linter.unusedVariables false
set_option linter.unusedSimpArgs false
namespace Go.Proofs.Ytdjglpmnfckimaa
open Go Go.SX
attribute [local irreducible] swp opsS thenS blockS retS CallsS St Ent YieldS anyS drawS
set_option maxHeartbeats 400000 in
theorem bclone_spec (a : Option Addr) (m c : Nat) (bs : List UInt8) (L : List HP) (h : RdS L a m 1 (bs.map B)) (hm : m ≤ 1000000) :
    CallsS Try.prog 33 [.slice a m c] L (fun v L' => ∃ a' c', v = .slice a' m c' ∧ L' = slO 5 1 a' m c' (bs.map B) :: L) := by
  refine CallsS.of_body Try.func33 rfl rfl rfl ?_
  repeat (first | (refine GQ.y ?_; refine Q.y ?_) | refine N.tn ?_ | refine N.tr ?_ | refine N.te ?_ | refine N.bn ?_ | refine N.br ?_ | refine N.be ?_ | refine N.bx rfl ?_ | refine swp_seq ?_ | refine swp_region ?_ | refine opsS_nil ?_ | refine swp_ret ?_ | refine swp_skip ?_ | refine swp_exit ?_ | refine swp_block ?_ | refine swp_cond_true rfl ?_ | refine swp_cond_false rfl ?_ | (refine GQ.g ?_; refine Q.gq ?_) | (refine GQ.s ?_; refine Q.st ?_))
  refine swp_cond rfl (fun hb => ?_) (fun hb => ?_)
  · have ha : a = none := by simpa using hb
    subst ha
    obtain ⟨h1, rfl | ⟨_, _, h2, _⟩⟩ := h
    case inr => simp at h2
    have h3 : bs.map B = [] := List.eq_nil_of_length_eq_zero (by simpa using h1)
    rw [h3]
    repeat (first | (refine GQ.y ?_; refine Q.y ?_) | refine N.tn ?_ | refine N.tr ?_ | refine N.te ?_ | refine N.bn ?_ | refine N.br ?_ | refine N.be ?_ | refine N.bx rfl ?_ | refine swp_seq ?_ | refine swp_region ?_ | refine opsS_nil ?_ | refine swp_ret ?_ | refine swp_skip ?_ | refine swp_exit ?_ | refine swp_block ?_ | refine swp_cond_true rfl ?_ | refine swp_cond_false rfl ?_ | (refine GQ.g ?_; refine Q.gq ?_) | (refine GQ.s ?_; refine Q.st ?_))
    refine N.r1 (RV.tmp rfl RV.nil) ?_ ⟨none, 0, rfl, rfl⟩
    repeat (first | exact Ent.refl _ | exact Ent.nil | refine Ent.pick ?_ | refine Ent.nilS ?_ | refine Ent.nilM ?_ | refine Ent.drop ?_)
  · repeat (first | (refine GQ.y ?_; refine Q.y ?_) | refine N.tn ?_ | refine N.tr ?_ | refine N.te ?_ | refine N.bn ?_ | refine N.br ?_ | refine N.be ?_ | refine N.bx rfl ?_ | refine swp_seq ?_ | refine swp_region ?_ | refine opsS_nil ?_ | refine swp_ret ?_ | refine swp_skip ?_ | refine swp_exit ?_ | refine swp_block ?_ | refine swp_cond_true rfl ?_ | refine swp_cond_false rfl ?_ | (refine GQ.g ?_; refine Q.gq ?_) | (refine GQ.s ?_; refine Q.st ?_))
    refine S.bs rfl rfl rfl rfl rfl (fun b => ?_)
    refine opsS_ent (slO_fold (sz := 1) (m := 0) rfl) ?_
    repeat (first | (refine GQ.y ?_; refine Q.y ?_) | refine N.tn ?_ | refine N.tr ?_ | refine N.te ?_ | refine N.bn ?_ | refine N.br ?_ | refine N.be ?_ | refine N.bx rfl ?_ | refine swp_seq ?_ | refine swp_region ?_ | refine opsS_nil ?_ | refine swp_ret ?_ | refine swp_skip ?_ | refine swp_exit ?_ | refine swp_block ?_ | refine swp_cond_true rfl ?_ | refine swp_cond_false rfl ?_ | (refine GQ.g ?_; refine Q.gq ?_) | (refine GQ.s ?_; refine Q.st ?_))
    refine S.app0 rfl rfl rfl (SrcS.rd h.sub (B_one _)) (by rfl) (by omega) (by omega) (fun a' c' => ?_)
    repeat (first | (refine GQ.y ?_; refine Q.y ?_) | refine N.tn ?_ | refine N.tr ?_ | refine N.te ?_ | refine N.bn ?_ | refine N.br ?_ | refine N.be ?_ | refine N.bx rfl ?_ | refine swp_seq ?_ | refine swp_region ?_ | refine opsS_nil ?_ | refine swp_ret ?_ | refine swp_skip ?_ | refine swp_exit ?_ | refine swp_block ?_ | refine swp_cond_true rfl ?_ | refine swp_cond_false rfl ?_ | (refine GQ.g ?_; refine Q.gq ?_) | (refine GQ.s ?_; refine Q.st ?_))
    refine N.r1 (RV.tmp rfl RV.nil) ?_ ⟨a', c', rfl, rfl⟩
    repeat (first | exact Ent.refl _ | exact Ent.nil | refine Ent.pick ?_ | refine Ent.nilS ?_ | refine Ent.nilM ?_ | refine Ent.drop ?_)
set_option maxHeartbeats 400000 in
theorem pair_spec (b : Nat) (k : Int) (x y : Int) (rs : List Value) (t : Nat) (L : List HP) [h : FindB b L (cl (.int .i64 k :: rs) t)] :
    CallsS Try.prog 29 [.pointer (some ⟨b, 0, none⟩), .int .i64 x, .int .i64 y] L (fun v L' => v = .bool (decide (0 ≤ x ∧ 0 ≤ y ∧ x < k ∧ y < k ∧ x ≠ y)) ∧ L' = L) := by
  refine CallsS.of_body Try.func29 rfl rfl rfl ?_
  repeat' (first | (refine GQ.y ?_; refine Q.y ?_) | refine N.tn ?_ | refine N.tr ?_ | refine N.te ?_ | refine N.bn ?_ | refine N.br ?_ | refine N.be ?_ | refine N.bx rfl ?_ | refine swp_seq ?_ | refine swp_region ?_ | refine opsS_nil ?_ | refine swp_ret ?_ | refine swp_skip ?_ | refine swp_exit ?_ | refine swp_block ?_ | refine swp_cond_true rfl ?_ | refine swp_cond_false rfl ?_ | (refine GQ.g ?_; refine Q.gq ?_) | refine S.gsp rfl rfl (fun hb => ?_) (fun hb => ?_) | refine swp_cond rfl (fun hb => ?_) (fun hb => ?_))
  all_goals refine N.r1 (RV.tmp rfl RV.nil) (Ent.refl _) ⟨?_, rfl⟩
  all_goals refine congrArg Value.bool (Bool.eq_iff_iff.2 ?_)
  all_goals simp [Option.isNone_some, Option.isNone_none, decide_eq_true_eq, decide_eq_false_iff_not, beq_iff_eq, bne_iff_ne, beq_eq_false_iff_ne, Bool.not_eq_true', Bool.not_eq_false', Bool.not_true, Bool.not_false, beq_true, beq_false, true_and, and_true, false_and, and_false, or_false, false_or, true_or, or_true, not_true_eq_false, not_false_eq_true, Bool.true_eq_false, Bool.false_eq_true] at *
  all_goals omega
end Go.Proofs.Ytdjglpmnfckimaa
