/- The net's functions, walked: Copy. No condition. -/
import Derived.Test.YtdjglpmnfckimaaNetD
set_option linter.unusedVariables false
set_option linter.unusedSimpArgs false
namespace Go.Proofs.Ytdjglpmnfckimaa
open Go Go.SX
attribute [local irreducible] swp opsS thenS blockS retS CallsS St Ent YieldS anyS drawS
def zeroL : Value := .agg #[.int .i64 0, .int .i64 0, .slice none 0 0]
set_option maxHeartbeats 1000000 in
theorem Copy_arg (b : Nat) (nodes : Int) (ls : List Let) (sp : List Bool) (i : Int) (L : List HP) (hi : ¬ (0 ≤ i ∧ i < ls.length)) :
    CallsS Try.prog 16 [.pointer (some ⟨b, 0, none⟩), .int .i64 i] (netH b nodes ls sp :: L) (fun v L' => v = .tuple #[zeroL, .int .i64 1] ∧ L' = netH b nodes ls sp :: L) := by
  refine calls_net fun vs a c M t hvs hgo => ?_
  have hvl := len_map hvs
  refine CallsS.of_body Try.func16 rfl rfl rfl ?_
  repeat (first | (refine GQ.y ?_; refine Q.y ?_) | refine N.tn ?_ | refine N.tr ?_ | refine N.te ?_ | refine N.bn ?_ | refine N.br ?_ | refine N.be ?_ | refine N.bx rfl ?_ | refine swp_seq ?_ | refine swp_region ?_ | refine opsS_nil ?_ | refine swp_ret ?_ | refine swp_skip ?_ | refine swp_exit ?_ | refine swp_block ?_ | refine swp_cond_true rfl ?_ | refine swp_cond_false rfl ?_ | (refine GQ.g ?_; refine Q.gq ?_) | (refine GQ.s ?_; refine Q.st ?_))
  refine S.al (fun b1 => ?_)
  by_cases h0 : i < 0
  all_goals
    repeat (first | (refine GQ.y ?_; refine Q.y ?_) | refine N.tn ?_ | refine N.tr ?_ | refine N.te ?_ | refine N.bn ?_ | refine N.br ?_ | refine N.be ?_ | refine N.bx rfl ?_ | refine swp_seq ?_ | refine swp_region ?_ | refine opsS_nil ?_ | refine swp_ret ?_ | refine swp_skip ?_ | refine swp_exit ?_ | refine swp_block ?_ | refine swp_cond_true rfl ?_ | refine swp_cond_false rfl ?_ | (refine GQ.g ?_; refine Q.gq ?_) | (refine GQ.s ?_; refine Q.st ?_) | (refine GQ.g ?_; refine Q.gd ?_) | refine Q.ct rfl ?_ | refine Q.cf rfl ?_)
    refine N.r2 (by apply RV.cellN; rfl; exact RdC.row; rfl; exact RV.tmp rfl RV.nil) ?_ ⟨rfl, rfl⟩
    refine Ent.trans ?_ (net_shut (a := a) (c := c) (t := t) vs hgo hvs rfl rfl)
    repeat (first | exact Ent.refl _ | exact Ent.nil | refine Ent.pick ?_ | refine Ent.nilS ?_ | refine Ent.nilM ?_ | refine Ent.drop ?_)
set_option maxHeartbeats 1000000 in
theorem Copy_state (b : Nat) (nodes : Int) (ls : List Let) (sp : List Bool) (k : Nat) (L : List HP) (hok : netOK nodes ls sp) (hk : k < ls.length) (ho : openB ls sp k = false) :
    CallsS Try.prog 16 [.pointer (some ⟨b, 0, none⟩), .int .i64 k] (netH b nodes ls sp :: L) (fun v L' => v = .tuple #[zeroL, .int .i64 10] ∧ L' = netH b nodes ls sp :: L) := by
  refine calls_net fun vs a c M t hvs hgo => ?_
  have hvl := len_map hvs
  have hvb : vs.length ≤ 100000 := by have := hok.2.2.2.2; omega
  refine CallsS.of_body Try.func16 rfl rfl rfl ?_
  repeat (first | (refine GQ.y ?_; refine Q.y ?_) | refine N.tn ?_ | refine N.tr ?_ | refine N.te ?_ | refine N.bn ?_ | refine N.br ?_ | refine N.be ?_ | refine N.bx rfl ?_ | refine swp_seq ?_ | refine swp_region ?_ | refine opsS_nil ?_ | refine swp_ret ?_ | refine swp_skip ?_ | refine swp_exit ?_ | refine swp_block ?_ | refine swp_cond_true rfl ?_ | refine swp_cond_false rfl ?_ | (refine GQ.g ?_; refine Q.gq ?_) | (refine GQ.s ?_; refine Q.st ?_))
  refine S.al (fun b1 => ?_)
  repeat (first | (refine GQ.y ?_; refine Q.y ?_) | refine N.tn ?_ | refine N.tr ?_ | refine N.te ?_ | refine N.bn ?_ | refine N.br ?_ | refine N.be ?_ | refine N.bx rfl ?_ | refine swp_seq ?_ | refine swp_region ?_ | refine opsS_nil ?_ | refine swp_ret ?_ | refine swp_skip ?_ | refine swp_exit ?_ | refine swp_block ?_ | refine swp_cond_true rfl ?_ | refine swp_cond_false rfl ?_ | (refine GQ.g ?_; refine Q.gq ?_) | (refine GQ.s ?_; refine Q.st ?_) | (refine GQ.g ?_; refine Q.gd ?_) | refine Q.ct rfl ?_ | refine Q.cf rfl ?_)
  refine opsS_ent (L' := netH b nodes ls sp :: pt b1 (cl [.int .i64 0, .int .i64 0, .slice none 0 0] 33) :: L) ?_ ?_
  · refine Ent.trans ?_ (net_shut (a := a) (c := c) (t := t) (M := M) vs hgo hvs rfl rfl)
    repeat (first | exact Ent.refl _ | exact Ent.nil | refine Ent.pick ?_ | refine Ent.nilS ?_ | refine Ent.nilM ?_ | refine Ent.drop ?_)
  refine S.cr rfl (Open_spec b nodes ls sp k _ hok) ?_
  rintro _ _ ⟨rfl, rfl⟩
  rw [ho]
  repeat (first | (refine GQ.y ?_; refine Q.y ?_) | refine N.tn ?_ | refine N.tr ?_ | refine N.te ?_ | refine N.bn ?_ | refine N.br ?_ | refine N.be ?_ | refine N.bx rfl ?_ | refine swp_seq ?_ | refine swp_region ?_ | refine opsS_nil ?_ | refine swp_ret ?_ | refine swp_skip ?_ | refine swp_exit ?_ | refine swp_block ?_ | refine swp_cond_true rfl ?_ | refine swp_cond_false rfl ?_ | (refine GQ.g ?_; refine Q.gq ?_) | (refine GQ.s ?_; refine Q.st ?_) | (refine GQ.g ?_; refine Q.gd ?_) | refine Q.ct rfl ?_ | refine Q.cf rfl ?_)
  refine N.r2 (by apply RV.cellN; rfl; exact RdC.row; rfl; exact RV.tmp rfl RV.nil) ?_ ⟨rfl, rfl⟩
  repeat (first | exact Ent.refl _ | exact Ent.nil | refine Ent.pick ?_ | refine Ent.nilS ?_ | refine Ent.nilM ?_ | refine Ent.drop ?_)
set_option maxHeartbeats 1000000 in
theorem Copy_ok (b : Nat) (nodes : Int) (ls : List Let) (sp : List Bool) (k : Nat) (l : Let) (L : List HP) (hok : netOK nodes ls sp) (hl : ls[k]? = some l) (ho : openB ls sp k = true) :
    CallsS Try.prog 16 [.pointer (some ⟨b, 0, none⟩), .int .i64 k] (netH b nodes ls sp :: L)
      (fun v L' => ∃ a c, v = .tuple #[.agg (LV.cells ⟨l.1, l.2.1, a, c, l.2.2⟩).toArray, .int .i64 0] ∧ L' = slO 5 1 a l.2.2.length c (l.2.2.map B) :: netH b nodes ls sp :: L) := by
  have hk : k < ls.length := (List.getElem?_eq_some_iff.1 hl).1
  refine calls_net fun vs a c M t hvs hgo => ?_
  have hvl := len_map hvs
  have hvb : vs.length ≤ 100000 := by have := hok.2.2.2.2; omega
  refine CallsS.of_body Try.func16 rfl rfl rfl ?_
  repeat (first | (refine GQ.y ?_; refine Q.y ?_) | refine N.tn ?_ | refine N.tr ?_ | refine N.te ?_ | refine N.bn ?_ | refine N.br ?_ | refine N.be ?_ | refine N.bx rfl ?_ | refine swp_seq ?_ | refine swp_region ?_ | refine opsS_nil ?_ | refine swp_ret ?_ | refine swp_skip ?_ | refine swp_exit ?_ | refine swp_block ?_ | refine swp_cond_true rfl ?_ | refine swp_cond_false rfl ?_ | (refine GQ.g ?_; refine Q.gq ?_) | (refine GQ.s ?_; refine Q.st ?_))
  refine S.al (fun b1 => ?_)
  repeat (first | (refine GQ.y ?_; refine Q.y ?_) | refine N.tn ?_ | refine N.tr ?_ | refine N.te ?_ | refine N.bn ?_ | refine N.br ?_ | refine N.be ?_ | refine N.bx rfl ?_ | refine swp_seq ?_ | refine swp_region ?_ | refine opsS_nil ?_ | refine swp_ret ?_ | refine swp_skip ?_ | refine swp_exit ?_ | refine swp_block ?_ | refine swp_cond_true rfl ?_ | refine swp_cond_false rfl ?_ | (refine GQ.g ?_; refine Q.gq ?_) | (refine GQ.s ?_; refine Q.st ?_) | (refine GQ.g ?_; refine Q.gd ?_) | refine Q.ct rfl ?_ | refine Q.cf rfl ?_)
  refine opsS_ent (L' := netH b nodes ls sp :: pt b1 (cl [.int .i64 0, .int .i64 0, .slice none 0 0] 33) :: L) ?_ ?_
  · refine Ent.trans ?_ (net_shut (a := a) (c := c) (t := t) (M := M) vs hgo hvs rfl rfl)
    repeat (first | exact Ent.refl _ | exact Ent.nil | refine Ent.pick ?_ | refine Ent.nilS ?_ | refine Ent.nilM ?_ | refine Ent.drop ?_)
  refine S.cr rfl (Open_spec b nodes ls sp k _ hok) ?_
  rintro _ _ ⟨rfl, rfl⟩
  rw [ho]
  clear hvs hgo hvl hvb
  refine opsS_net fun vs a c M t hvs hgo => opsS_addr a fun ha => ?_
  have hvl := len_map hvs
  obtain ⟨v, hv⟩ := mem_get (l := vs) (k := k) (by omega)
  have hlv := fst_map hvs hv
  rw [hl] at hlv
  obtain rfl : l = v.abs := by simpa using hlv
  obtain ⟨b2, rfl⟩ := ha.resolve_left (by omega)
  obtain ⟨hg1, hg2⟩ := hgo v (List.mem_of_getElem? hv)
  repeat (first | (refine GQ.y ?_; refine Q.y ?_) | refine N.tn ?_ | refine N.tr ?_ | refine N.te ?_ | refine N.bn ?_ | refine N.br ?_ | refine N.be ?_ | refine N.bx rfl ?_ | refine swp_seq ?_ | refine swp_region ?_ | refine opsS_nil ?_ | refine swp_ret ?_ | refine swp_skip ?_ | refine swp_exit ?_ | refine swp_block ?_ | refine swp_cond_true rfl ?_ | refine swp_cond_false rfl ?_ | (refine GQ.g ?_; refine Q.gq ?_) | (refine GQ.s ?_; refine Q.st ?_) | (refine GQ.g ?_; refine Q.gd ?_) | refine Q.ct rfl ?_ | refine Q.cf rfl ?_)
  try refine S.y (by apply K.load; exact Y.ldRN rfl (RdC.elem LV.cells_len RdC.ofS hv) rfl) ?_
  refine S.cr rfl (copyOf_spec v _ hg1.rd (by omega)) ?_
  rintro _ _ ⟨a', c', rfl, rfl⟩
  repeat (first | (refine GQ.y ?_; refine Q.y ?_) | refine N.tn ?_ | refine N.tr ?_ | refine N.te ?_ | refine N.bn ?_ | refine N.br ?_ | refine N.be ?_ | refine N.bx rfl ?_ | refine swp_seq ?_ | refine swp_region ?_ | refine opsS_nil ?_ | refine swp_ret ?_ | refine swp_skip ?_ | refine swp_exit ?_ | refine swp_block ?_ | refine swp_cond_true rfl ?_ | refine swp_cond_false rfl ?_ | (refine GQ.g ?_; refine Q.gq ?_) | (refine GQ.s ?_; refine Q.st ?_) | (refine GQ.g ?_; refine Q.gd ?_) | refine Q.ct rfl ?_ | refine Q.cf rfl ?_)
  refine N.r2 (by apply RV.cellN; rfl; exact RdC.row; rfl; exact RV.tmp rfl RV.nil) ?_ ⟨a', c', rfl, rfl⟩
  refine Ent.trans ?_ (net_shut (a := some ⟨b2, 0, none⟩) (c := c) (t := t) vs hgo hvs rfl rfl).cons
  repeat (first | exact Ent.refl _ | exact Ent.nil | refine Ent.pick ?_ | refine Ent.nilS ?_ | refine Ent.nilM ?_ | refine Ent.drop ?_)
end Go.Proofs.Ytdjglpmnfckimaa
