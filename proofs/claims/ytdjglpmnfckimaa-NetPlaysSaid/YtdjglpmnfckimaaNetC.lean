/- The net's functions, walked: New. No condition. -/
import Derived.Test.YtdjglpmnfckimaaNetB
import Derived.Test.YtdjglpmnfckimaaSxK
set_option linter.unusedVariables false
set_option linter.unusedSimpArgs false
namespace Go.Proofs.Ytdjglpmnfckimaa
open Go Go.SX
attribute [local irreducible] swp opsS thenS blockS retS CallsS St Ent YieldS anyS drawS
abbrev Let := Int × Int × List UInt8
def netOK (nodes : Int) (ls : List Let) (sp : List Bool) : Prop := 1 ≤ nodes ∧ nodes ≤ 16 ∧ sp.length = 256 ∧ (∀ l ∈ ls, 0 ≤ l.1 ∧ 0 ≤ l.2.1 ∧ l.1 < nodes ∧ l.2.1 < nodes ∧ l.1 ≠ l.2.1 ∧ l.2.2.length ≤ 4102) ∧ ls.length ≤ 100000
def spAt (sp : List Bool) (x y : Int) : Bool := (sp[x.toNat * 16 + y.toNat]?).getD false
def openB (ls : List Let) (sp : List Bool) (i : Int) : Bool := decide (0 ≤ i) && (match ls[i.toNat]? with | some l => !spAt sp l.1 l.2.1 | none => false)
set_option maxHeartbeats 400000 in
theorem New_bad (k : Int) (L : List HP) (h : ¬ (1 ≤ k ∧ k ≤ 16)) : CallsS Try.prog 9 [.int .i64 k] L (fun v L' => v = .tuple #[.pointer none, .int .i64 1] ∧ L' = L) := by
  refine CallsS.of_body Try.func9 rfl rfl rfl ?_
  repeat' (first | (refine GQ.y ?_; refine Q.y ?_) | refine N.tn ?_ | refine N.tr ?_ | refine N.te ?_ | refine N.bn ?_ | refine N.br ?_ | refine N.be ?_ | refine N.bx rfl ?_ | refine swp_seq ?_ | refine swp_region ?_ | refine opsS_nil ?_ | refine swp_ret ?_ | refine swp_skip ?_ | refine swp_exit ?_ | refine swp_block ?_ | refine swp_cond_true rfl ?_ | refine swp_cond_false rfl ?_ | (refine GQ.g ?_; refine Q.gq ?_) | (refine GQ.s ?_; refine Q.st ?_) | (refine GQ.g ?_; refine Q.gd ?_) | refine Q.ct rfl ?_ | refine Q.cf rfl ?_ | refine S.gsp rfl rfl (fun hb => ?_) (fun hb => ?_) | refine swp_cond rfl (fun hb => ?_) (fun hb => ?_))
  all_goals first
    | (refine N.r2 (RV.tmp rfl (RV.tmp rfl RV.nil)) (Ent.refl _) ⟨rfl, rfl⟩; done)
    | (exfalso; simp only [Option.isNone_some, Option.isNone_none, decide_eq_true_eq, decide_eq_false_iff_not, beq_iff_eq, bne_iff_ne, beq_eq_false_iff_ne, Bool.not_eq_true', Bool.not_eq_false', Bool.not_true, Bool.not_false, beq_true, beq_false, true_and, and_true, false_and, and_false, or_false, false_or, true_or, or_true, not_true_eq_false, not_false_eq_true, Bool.true_eq_false, Bool.false_eq_true] at *; omega)
set_option maxRecDepth 20000 in
set_option maxHeartbeats 400000 in
theorem New_spec (k : Int) (L : List HP) (h1 : 1 ≤ k) (h2 : k ≤ 16) : CallsS Try.prog 9 [.int .i64 k] L (fun v L' => ∃ b, v = .tuple #[.pointer (some ⟨b, 0, none⟩), .int .i64 0] ∧ L' = netH b k [] (List.replicate 256 false) :: L) := by
  refine CallsS.of_body Try.func9 rfl rfl rfl ?_
  repeat (first | refine S.y (by first | (apply Y.mv; rfl) | (apply Y.as; rfl) | (apply K.bin; first | (apply Y.eqi; rfl; rfl) | (apply Y.lss; rfl; rfl) | (apply Y.leq; rfl; rfl) | (apply Y.gtr; rfl; rfl) | (apply Y.geq; rfl; rfl) | (apply Y.nei; rfl; rfl) | (apply Y.eqp; rfl; rfl) | (apply Y.nep; rfl; rfl) | (apply Y.eqs; rfl; rfl) | (apply Y.nes; rfl; rfl) | (apply Y.eqB; rfl; rfl) | (apply Y.neB; rfl; rfl) | exact Y.addi rfl rfl rfl (by omega) (by omega) | exact Y.subi rfl rfl rfl (by omega) (by omega)) | (apply K.pick; first | (apply Y.pk_t; rfl; rfl) | (apply Y.pk_f; rfl; rfl) | exact Y.pk rfl rfl rfl)) ?_ | refine N.tn ?_ | refine N.tr ?_ | refine N.te ?_ | refine N.bn ?_ | refine N.br ?_ | refine N.be ?_ | refine N.bx rfl ?_ | refine swp_seq ?_ | refine swp_region ?_ | refine opsS_nil ?_ | refine swp_ret ?_ | refine swp_skip ?_ | refine swp_exit ?_ | refine swp_block ?_ | refine swp_cond_true rfl ?_ | refine swp_cond_false rfl ?_ | (refine GQ.g ?_; refine Q.gq ?_) | (refine GQ.g ?_; refine Q.gd ?_) | refine Q.ct rfl ?_ | refine Q.cf rfl ?_)
  refine S.y (by apply Y.bd; rfl; exact (show _ = 258 by simp); rfl; exact ((rfl : _ = Value.int .i64 k :: Value.slice none 0 0 :: List.replicate 256 (Value.bool false)))) ?_
  refine S.bx rfl (by exact (rfl : _ = Value.int .i64 k :: Value.slice none 0 0 :: List.replicate 256 (Value.bool false))) (fun b => ?_)
  repeat (first | (refine GQ.y ?_; refine Q.y ?_) | refine N.tn ?_ | refine N.tr ?_ | refine N.te ?_ | refine N.bn ?_ | refine N.br ?_ | refine N.be ?_ | refine N.bx rfl ?_ | refine swp_seq ?_ | refine swp_region ?_ | refine opsS_nil ?_ | refine swp_ret ?_ | refine swp_skip ?_ | refine swp_exit ?_ | refine swp_block ?_ | refine swp_cond_true rfl ?_ | refine swp_cond_false rfl ?_ | (refine GQ.g ?_; refine Q.gq ?_) | (refine GQ.s ?_; refine Q.st ?_) | (refine GQ.g ?_; refine Q.gd ?_) | refine Q.ct rfl ?_ | refine Q.cf rfl ?_)
  refine N.r2 (RV.tmp rfl (RV.tmp rfl RV.nil)) ?_ ⟨b, rfl, rfl⟩
  refine Ent.trans ?_ (net_shut (a := none) (m := 0) (c := 0) (t := 68) (cs := []) (M := fun _ => none) [] (by simp) rfl rfl rfl)
  rw [List.map_replicate]
  repeat (first | exact Ent.refl _ | exact Ent.nil | refine Ent.pick ?_ | refine Ent.nilS ?_ | refine Ent.nilM ?_ | refine Ent.drop ?_)
end Go.Proofs.Ytdjglpmnfckimaa
