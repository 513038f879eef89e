/- The document's bytes, and letters told. No condition. -/
import Derived.Test.YtdjglpmnfckimaaNetH
import Derived.Test.YtdjglpmnfckimaaSxT
set_option linter.unusedVariables false
set_option linter.unusedSimpArgs false
namespace Go.Proofs.Ytdjglpmnfckimaa
open Go Go.SX
attribute [local irreducible] swp opsS thenS blockS retS CallsS St Ent YieldS anyS drawS
set_option maxHeartbeats 400000 in
theorem RCopy_spec (a : Option Addr) (m c : Nat) (bs : List UInt8) (L : List HP) (h : RdS L a m 1 (bs.map B)) (hm : m ≤ 1000000) :
    CallsS Try.prog 25 [.slice a m c] L (fun v L' => ∃ a' c', v = .slice a' m c' ∧ L' = slO 5 1 a' m c' (bs.map B) :: L) := by
  refine CallsS.of_body Try.func25 rfl rfl rfl ?_
  repeat (first | (refine GQ.y ?_; refine Q.y ?_) | refine N.tn ?_ | refine N.tr ?_ | refine N.te ?_ | refine N.bn ?_ | refine N.br ?_ | refine N.be ?_ | refine N.bx rfl ?_ | refine swp_seq ?_ | refine swp_region ?_ | refine opsS_nil ?_ | refine swp_ret ?_ | refine swp_skip ?_ | refine swp_exit ?_ | refine swp_block ?_ | refine swp_cond_true rfl ?_ | refine swp_cond_false rfl ?_ | (refine GQ.g ?_; refine Q.gq ?_) | (refine GQ.s ?_; refine Q.st ?_))
  refine S.bs rfl rfl rfl rfl rfl (fun b => ?_)
  refine opsS_ent (slO_fold (sz := 1) (m := 0) rfl) ?_
  repeat (first | (refine GQ.y ?_; refine Q.y ?_) | refine N.tn ?_ | refine N.tr ?_ | refine N.te ?_ | refine N.bn ?_ | refine N.br ?_ | refine N.be ?_ | refine N.bx rfl ?_ | refine swp_seq ?_ | refine swp_region ?_ | refine opsS_nil ?_ | refine swp_ret ?_ | refine swp_skip ?_ | refine swp_exit ?_ | refine swp_block ?_ | refine swp_cond_true rfl ?_ | refine swp_cond_false rfl ?_ | (refine GQ.g ?_; refine Q.gq ?_) | (refine GQ.s ?_; refine Q.st ?_))
  refine S.app0 rfl rfl rfl (SrcS.rd h.sub (B_one _)) (by rfl) (by omega) (by omega) (fun a' c' => ?_)
  repeat (first | (refine GQ.y ?_; refine Q.y ?_) | refine N.tn ?_ | refine N.tr ?_ | refine N.te ?_ | refine N.bn ?_ | refine N.br ?_ | refine N.be ?_ | refine N.bx rfl ?_ | refine swp_seq ?_ | refine swp_region ?_ | refine opsS_nil ?_ | refine swp_ret ?_ | refine swp_skip ?_ | refine swp_exit ?_ | refine swp_block ?_ | refine swp_cond_true rfl ?_ | refine swp_cond_false rfl ?_ | (refine GQ.g ?_; refine Q.gq ?_) | (refine GQ.s ?_; refine Q.st ?_))
  refine N.r1 (RV.tmp rfl RV.nil) ?_ ⟨a', c', rfl, rfl⟩
  repeat (first | exact Ent.refl _ | exact Ent.nil | refine Ent.pick ?_ | refine Ent.nilS ?_ | refine Ent.nilM ?_ | refine Ent.drop ?_)
theorem B_take (bs : List UInt8) (k : Nat) : (bs.map B).take (k * 1) = (bs.take k).map B := by rw [Nat.mul_one, List.map_take]
set_option maxHeartbeats 400000 in
theorem Cut_spec (a : Option Addr) (c : Nat) (bs : List UInt8) (n : Nat) (L : List HP) (h : RdS L a bs.length 1 (bs.map B)) (hc : bs.length ≤ c) (hn : n ≤ 1000000) :
    CallsS Try.prog 18 [.slice a bs.length c, .int .i64 n] L (fun v L' => ∃ a' c', v = .slice a' (bs.take n).length c' ∧ L' = slO 5 1 a' (bs.take n).length c' ((bs.take n).map B) :: L) := by
  refine CallsS.of_body Try.func18 rfl rfl rfl ?_
  repeat (first | (refine GQ.y ?_; refine Q.y ?_) | refine N.tn ?_ | refine N.tr ?_ | refine N.te ?_ | refine N.bn ?_ | refine N.br ?_ | refine N.be ?_ | refine N.bx rfl ?_ | refine swp_seq ?_ | refine swp_region ?_ | refine opsS_nil ?_ | refine swp_ret ?_ | refine swp_skip ?_ | refine swp_exit ?_ | refine swp_block ?_ | refine swp_cond_true rfl ?_ | refine swp_cond_false rfl ?_ | (refine GQ.g ?_; refine Q.gq ?_) | (refine GQ.s ?_; refine Q.st ?_))
  refine S.bs rfl rfl rfl rfl rfl (fun b => ?_)
  refine opsS_ent (slO_fold (sz := 1) (m := 0) rfl) ?_
  repeat (first | (refine GQ.y ?_; refine Q.y ?_) | refine N.tn ?_ | refine N.tr ?_ | refine N.te ?_ | refine N.bn ?_ | refine N.br ?_ | refine N.be ?_ | refine N.bx rfl ?_ | refine swp_seq ?_ | refine swp_region ?_ | refine opsS_nil ?_ | refine swp_ret ?_ | refine swp_skip ?_ | refine swp_exit ?_ | refine swp_block ?_ | refine swp_cond_true rfl ?_ | refine swp_cond_false rfl ?_ | (refine GQ.g ?_; refine Q.gq ?_) | (refine GQ.s ?_; refine Q.st ?_))
  have hl : (bs.take n).length = min bs.length n := by rw [List.length_take, Nat.min_comm]
  refine S.y (Y.slT (h := (bs.take n).length) rfl rfl (by rw [hl]; omega) (by omega)) ?_
  repeat (first | (refine GQ.y ?_; refine Q.y ?_) | refine N.tn ?_ | refine N.tr ?_ | refine N.te ?_ | refine N.bn ?_ | refine N.br ?_ | refine N.be ?_ | refine N.bx rfl ?_ | refine swp_seq ?_ | refine swp_region ?_ | refine opsS_nil ?_ | refine swp_ret ?_ | refine swp_skip ?_ | refine swp_exit ?_ | refine swp_block ?_ | refine swp_cond_true rfl ?_ | refine swp_cond_false rfl ?_ | (refine GQ.g ?_; refine Q.gq ?_) | (refine GQ.s ?_; refine Q.st ?_))
  have ht := h.take (k := (bs.take n).length) (by omega)
  rw [B_take, show bs.take (bs.take n).length = bs.take n by rw [List.length_take]; simp] at ht
  refine S.app0 rfl rfl rfl (SrcS.rd ht.sub (B_one _)) (by rfl) (by omega) (by omega) (fun a' c' => ?_)
  repeat (first | (refine GQ.y ?_; refine Q.y ?_) | refine N.tn ?_ | refine N.tr ?_ | refine N.te ?_ | refine N.bn ?_ | refine N.br ?_ | refine N.be ?_ | refine N.bx rfl ?_ | refine swp_seq ?_ | refine swp_region ?_ | refine opsS_nil ?_ | refine swp_ret ?_ | refine swp_skip ?_ | refine swp_exit ?_ | refine swp_block ?_ | refine swp_cond_true rfl ?_ | refine swp_cond_false rfl ?_ | (refine GQ.g ?_; refine Q.gq ?_) | (refine GQ.s ?_; refine Q.st ?_))
  refine N.r1 (RV.tmp rfl RV.nil) ?_ ⟨a', c', rfl, rfl⟩
  repeat (first | exact Ent.refl _ | exact Ent.nil | refine Ent.pick ?_ | refine Ent.nilS ?_ | refine Ent.nilM ?_ | refine Ent.drop ?_)
set_option maxHeartbeats 400000 in
theorem RSame_spec (a a' : Option Addr) (c c' : Nat) (p q : List UInt8) (L : List HP) (h : RdS L a p.length 1 (p.map B)) (h' : RdS L a' q.length 1 (q.map B)) :
    CallsS Try.prog 27 [.slice a p.length c, .slice a' q.length c'] L (fun v L' => v = .bool (decide (p = q)) ∧ L' = L) := by
  refine CallsS.of_body Try.func27 rfl rfl rfl ?_
  repeat (first | (refine GQ.y ?_; refine Q.y ?_) | refine N.tn ?_ | refine N.tr ?_ | refine N.te ?_ | refine N.bn ?_ | refine N.br ?_ | refine N.be ?_ | refine N.bx rfl ?_ | refine swp_seq ?_ | refine swp_region ?_ | refine opsS_nil ?_ | refine swp_ret ?_ | refine swp_skip ?_ | refine swp_exit ?_ | refine swp_block ?_ | refine swp_cond_true rfl ?_ | refine swp_cond_false rfl ?_ | (refine GQ.g ?_; refine Q.gq ?_) | (refine GQ.s ?_; refine Q.st ?_))
  refine S.y (by refine Y.b2s (bs := p) (by rfl) ?_; exact h.sub) ?_
  repeat (first | (refine GQ.y ?_; refine Q.y ?_) | refine N.tn ?_ | refine N.tr ?_ | refine N.te ?_ | refine N.bn ?_ | refine N.br ?_ | refine N.be ?_ | refine N.bx rfl ?_ | refine swp_seq ?_ | refine swp_region ?_ | refine opsS_nil ?_ | refine swp_ret ?_ | refine swp_skip ?_ | refine swp_exit ?_ | refine swp_block ?_ | refine swp_cond_true rfl ?_ | refine swp_cond_false rfl ?_ | (refine GQ.g ?_; refine Q.gq ?_) | (refine GQ.s ?_; refine Q.st ?_))
  refine S.y (by refine Y.b2s (bs := q) (by rfl) ?_; exact h'.sub) ?_
  repeat (first | (refine GQ.y ?_; refine Q.y ?_) | refine N.tn ?_ | refine N.tr ?_ | refine N.te ?_ | refine N.bn ?_ | refine N.br ?_ | refine N.be ?_ | refine N.bx rfl ?_ | refine swp_seq ?_ | refine swp_region ?_ | refine opsS_nil ?_ | refine swp_ret ?_ | refine swp_skip ?_ | refine swp_exit ?_ | refine swp_block ?_ | refine swp_cond_true rfl ?_ | refine swp_cond_false rfl ?_ | (refine GQ.g ?_; refine Q.gq ?_) | (refine GQ.s ?_; refine Q.st ?_))
  try refine S.y (Y.eqst (a := p) (b := q) rfl rfl) ?_
  repeat (first | (refine GQ.y ?_; refine Q.y ?_) | refine N.tn ?_ | refine N.tr ?_ | refine N.te ?_ | refine N.bn ?_ | refine N.br ?_ | refine N.be ?_ | refine N.bx rfl ?_ | refine swp_seq ?_ | refine swp_region ?_ | refine opsS_nil ?_ | refine swp_ret ?_ | refine swp_skip ?_ | refine swp_exit ?_ | refine swp_block ?_ | refine swp_cond_true rfl ?_ | refine swp_cond_false rfl ?_ | (refine GQ.g ?_; refine Q.gq ?_) | (refine GQ.s ?_; refine Q.st ?_))
  refine N.r1 (RV.tmp rfl RV.nil) (Ent.refl _) ⟨rfl, rfl⟩
/-- Letters that nobody writes any more. -/
def LSM (M : Nat → Option Obj) (a : Option Addr) (vs : List LV) : Prop := (∀ v ∈ vs, SlM M v.a v.body.length 1 (v.body.map B)) ∧ SlM M a vs.length 3 (vs.flatMap LV.cells)
set_option maxHeartbeats 1000000 in
theorem Letters_spec (b : Nat) (nodes : Int) (ls : List Let) (sp : List Bool) (L : List HP) (hl : ls.length ≤ 100000) (hb : ∀ l ∈ ls, l.2.2.length ≤ 4102) :
    CallsS Try.prog 21 [.pointer (some ⟨b, 0, none⟩)] (netH b nodes ls sp :: L)
      (fun v L' => ∃ a c vs M, v = .slice a vs.length c ∧ vs.map LV.abs = ls ∧ LSM M a vs ∧ L' = roM M :: netH b nodes ls sp :: L) := by
  refine calls_net fun vs a c M t hvs hgo => CallsS.addr a fun ha => ?_
  have hvl := len_map hvs
  refine CallsS.of_body Try.func21 rfl rfl rfl ?_
  repeat (first | (refine GQ.y ?_; refine Q.y ?_) | refine N.tn ?_ | refine N.tr ?_ | refine N.te ?_ | refine N.bn ?_ | refine N.br ?_ | refine N.be ?_ | refine N.bx rfl ?_ | refine swp_seq ?_ | refine swp_region ?_ | refine opsS_nil ?_ | refine swp_ret ?_ | refine swp_skip ?_ | refine swp_exit ?_ | refine swp_block ?_ | refine swp_cond_true rfl ?_ | refine swp_cond_false rfl ?_ | (refine GQ.g ?_; refine Q.gq ?_) | (refine GQ.s ?_; refine Q.st ?_))
  refine swp_loop (σ := Nat × Option Addr × Nat × (Nat → Option Obj) × List LV) (fun s => [(11, .slice a vs.length c), (12, .int .i64 vs.length), (3, .slice s.2.1 s.2.2.2.2.length s.2.2.1), (13, .int .i64 s.1)])
    (fun s => slO 33 3 s.2.1 s.2.2.2.2.length s.2.2.1 (s.2.2.2.2.flatMap LV.cells) :: roM s.2.2.2.1 :: pt b (cl (.int .i64 nodes :: .slice a vs.length c :: sp.map .bool) t) :: slO 33 3 a vs.length c (vs.flatMap LV.cells) :: L)
    (fun s => s.1 ≤ vs.length ∧ leM M s.2.2.2.1 ∧ s.2.2.2.2.map LV.abs = ls.take s.1 ∧ ∀ v ∈ s.2.2.2.2, SlM s.2.2.2.1 v.a v.body.length 1 (v.body.map B)) (fun s => vs.length - s.1) (0, none, 0, M, []) ⟨rfl, rfl, rfl, rfl, trivial⟩ ?_ ⟨by omega, leM.refl _, by simp, by simp⟩ ?_
  · refine Ent.trans ?_ slO_nil
    repeat (first | exact Ent.refl _ | exact Ent.nil | refine Ent.pick ?_ | refine Ent.nilS ?_ | refine Ent.nilM ?_ | refine Ent.drop ?_)
  rintro ⟨k, a', c', M', os⟩ ⟨hk, hle, hos, hgos⟩
  dsimp only at hk hle hos hgos ⊢
  have hol : os.length = k := by
    have := congrArg List.length hos
    simp only [List.length_map, List.length_take] at this; omega
  repeat (first | (refine GQ.y ?_; refine Q.y ?_) | refine N.tn ?_ | refine N.tr ?_ | refine N.te ?_ | refine N.bn ?_ | refine N.br ?_ | refine N.be ?_ | refine N.bx rfl ?_ | refine swp_seq ?_ | refine swp_region ?_ | refine opsS_nil ?_ | refine swp_ret ?_ | refine swp_skip ?_ | refine swp_exit ?_ | refine swp_block ?_ | refine swp_cond_true rfl ?_ | refine swp_cond_false rfl ?_ | (refine GQ.g ?_; refine Q.gq ?_) | (refine GQ.s ?_; refine Q.st ?_))
  refine swp_cond rfl (fun hlt => ?_) (fun hge => ?_)
  · have hlt : k < vs.length := by simpa using hlt
    obtain ⟨v, hv⟩ := mem_get hlt
    have hlv := fst_map hvs hv
    obtain ⟨hg1, hg2⟩ := hgo v (List.mem_of_getElem? hv)
    obtain ⟨b2, rfl⟩ := ha.resolve_left (by omega)
    repeat (first | (refine GQ.y ?_; refine Q.y ?_) | refine N.tn ?_ | refine N.tr ?_ | refine N.te ?_ | refine N.bn ?_ | refine N.br ?_ | refine N.be ?_ | refine N.bx rfl ?_ | refine swp_seq ?_ | refine swp_region ?_ | refine opsS_nil ?_ | refine swp_ret ?_ | refine swp_skip ?_ | refine swp_exit ?_ | refine swp_block ?_ | refine swp_cond_true rfl ?_ | refine swp_cond_false rfl ?_ | (refine GQ.g ?_; refine Q.gq ?_) | (refine GQ.s ?_; refine Q.st ?_))
    try refine S.y (by apply K.load; exact Y.ldRN rfl (RdC.elem LV.cells_len RdC.ofS hv) rfl) ?_
    refine S.al (fun b3 => ?_)
    repeat (first | (refine GQ.y ?_; refine Q.y ?_) | refine N.tn ?_ | refine N.tr ?_ | refine N.te ?_ | refine N.bn ?_ | refine N.br ?_ | refine N.be ?_ | refine N.bx rfl ?_ | refine swp_seq ?_ | refine swp_region ?_ | refine opsS_nil ?_ | refine swp_ret ?_ | refine swp_skip ?_ | refine swp_exit ?_ | refine swp_block ?_ | refine swp_cond_true rfl ?_ | refine swp_cond_false rfl ?_ | (refine GQ.g ?_; refine Q.gq ?_) | (refine GQ.s ?_; refine Q.st ?_))
    refine S.cr rfl (copyOf_spec v _ (hg1.mono hle).rd (by omega)) ?_
    rintro _ _ ⟨a4, c4, rfl, rfl⟩
    refine opsS_absorb fun M2 hle2 hsl => ?_
    repeat (first | (refine GQ.y ?_; refine Q.y ?_) | refine N.tn ?_ | refine N.tr ?_ | refine N.te ?_ | refine N.bn ?_ | refine N.br ?_ | refine N.be ?_ | refine N.bx rfl ?_ | refine swp_seq ?_ | refine swp_region ?_ | refine opsS_nil ?_ | refine swp_ret ?_ | refine swp_skip ?_ | refine swp_exit ?_ | refine swp_block ?_ | refine swp_cond_true rfl ?_ | refine swp_cond_false rfl ?_ | (refine GQ.g ?_; refine Q.gq ?_) | (refine GQ.s ?_; refine Q.st ?_))
    refine S.bs rfl rfl rfl rfl (by repeat (first | exact nz | (apply cz; exact rfl) | exact rfl)) (fun b4 => ?_)
    repeat (first | (refine GQ.y ?_; refine Q.y ?_) | refine N.tn ?_ | refine N.tr ?_ | refine N.te ?_ | refine N.bn ?_ | refine N.br ?_ | refine N.be ?_ | refine N.bx rfl ?_ | refine swp_seq ?_ | refine swp_region ?_ | refine opsS_nil ?_ | refine swp_ret ?_ | refine swp_skip ?_ | refine swp_exit ?_ | refine swp_block ?_ | refine swp_cond_true rfl ?_ | refine swp_cond_false rfl ?_ | (refine GQ.g ?_; refine Q.gq ?_) | (refine GQ.s ?_; refine Q.st ?_))
    refine S.app rfl rfl (SrcS.sl RdC.row (by rfl) (by rfl)) (by rfl) (by omega) (by omega) (fun a5 c5 => ?_)
    repeat (first | (refine GQ.y ?_; refine Q.y ?_) | refine N.tn ?_ | refine N.tr ?_ | refine N.te ?_ | refine N.bn ?_ | refine N.br ?_ | refine N.be ?_ | refine N.bx rfl ?_ | refine swp_seq ?_ | refine swp_region ?_ | refine opsS_nil ?_ | refine swp_ret ?_ | refine swp_skip ?_ | refine swp_exit ?_ | refine swp_block ?_ | refine swp_cond_true rfl ?_ | refine swp_cond_false rfl ?_ | (refine GQ.g ?_; refine Q.gq ?_) | (refine GQ.s ?_; refine Q.st ?_))
    refine ⟨(k + 1, a5, c5, M2, os ++ [⟨v.fr, v.to, a4, c4, v.body⟩]), ⟨rfl, rfl, ?_, congrArg some (congrArg (Value.int .i64) ?_), trivial⟩, ?_, ⟨by omega, hle.trans hle2, ?_, ?_⟩, by simp only []; omega⟩
    · exact congrArg some (by simp)
    · simp
    · simp only [len_snoc, flat_snoc, LV.cells]
      repeat (first | exact Ent.refl _ | exact Ent.nil | refine Ent.pick ?_ | refine Ent.nilS ?_ | refine Ent.nilM ?_ | refine Ent.drop ?_)
    · rw [take_snoc hlv, List.map_append, hos]; rfl
    · intro x hx
      rcases List.mem_append.1 hx with hx | hx
      · exact (hgos x hx).mono hle2
      · obtain rfl := List.mem_singleton.1 hx; exact hsl
  · have hk2 : k = vs.length := by have : ¬ k < vs.length := by simpa using hge
                                   omega
    subst hk2
    refine swp_absorb fun M2 hle2 hsl => swp_dup ?_
    repeat (first | (refine GQ.y ?_; refine Q.y ?_) | refine N.tn ?_ | refine N.tr ?_ | refine N.te ?_ | refine N.bn ?_ | refine N.br ?_ | refine N.be ?_ | refine N.bx rfl ?_ | refine swp_seq ?_ | refine swp_region ?_ | refine opsS_nil ?_ | refine swp_ret ?_ | refine swp_skip ?_ | refine swp_exit ?_ | refine swp_block ?_ | refine swp_cond_true rfl ?_ | refine swp_cond_false rfl ?_ | (refine GQ.g ?_; refine Q.gq ?_) | (refine GQ.s ?_; refine Q.st ?_))
    refine N.r1 (RV.tmp rfl RV.nil) ?_ ⟨a', c', os, M2, rfl, by rw [hos, hvl, List.take_length], ⟨fun v hv => (hgos v hv).mono hle2, hsl⟩, rfl⟩
    refine Ent.trans ?_ (net_shut (a := a) (c := c) (t := t) (M := M2) vs (fun v hv => (hgo v hv).mono (hle.trans hle2)) hvs rfl rfl).cons
    repeat (first | exact Ent.refl _ | exact Ent.nil | refine Ent.pick ?_ | refine Ent.nilS ?_ | refine Ent.nilM ?_ | refine Ent.drop ?_)
set_option maxHeartbeats 1000000 in
theorem back_spec (a : Option Addr) (c : Nat) (vs : List LV) (L : List HP) (h : RdS L a vs.length 3 (vs.flatMap LV.cells)) (hm : vs.length ≤ 100000) :
    CallsS Try.prog 20 [.slice a vs.length c] L (fun v L' => ∃ a' c', v = .slice a' vs.length c' ∧ L' = slO 31 3 a' vs.length c' (vs.flatMap LV.cells) :: L) := by
  refine CallsS.of_body Try.func20 rfl rfl rfl ?_
  repeat (first | (refine GQ.y ?_; refine Q.y ?_) | refine N.tn ?_ | refine N.tr ?_ | refine N.te ?_ | refine N.bn ?_ | refine N.br ?_ | refine N.be ?_ | refine N.bx rfl ?_ | refine swp_seq ?_ | refine swp_region ?_ | refine opsS_nil ?_ | refine swp_ret ?_ | refine swp_skip ?_ | refine swp_exit ?_ | refine swp_block ?_ | refine swp_cond_true rfl ?_ | refine swp_cond_false rfl ?_ | (refine GQ.g ?_; refine Q.gq ?_) | (refine GQ.s ?_; refine Q.st ?_))
  refine swp_loop (σ := Nat × Option Addr × Nat) (fun s => [(6, .slice a vs.length c), (7, .int .i64 vs.length), (3, .slice s.2.1 s.1 s.2.2), (8, .int .i64 s.1)])
    (fun s => slO 31 3 s.2.1 s.1 s.2.2 ((vs.take s.1).flatMap LV.cells) :: L)
    (fun s => s.1 ≤ vs.length) (fun s => vs.length - s.1) (0, none, 0) ⟨rfl, rfl, rfl, rfl, trivial⟩ slO_nil (by simp) ?_
  rintro ⟨k, a', c'⟩ hk
  dsimp only at hk ⊢
  repeat (first | (refine GQ.y ?_; refine Q.y ?_) | refine N.tn ?_ | refine N.tr ?_ | refine N.te ?_ | refine N.bn ?_ | refine N.br ?_ | refine N.be ?_ | refine N.bx rfl ?_ | refine swp_seq ?_ | refine swp_region ?_ | refine opsS_nil ?_ | refine swp_ret ?_ | refine swp_skip ?_ | refine swp_exit ?_ | refine swp_block ?_ | refine swp_cond_true rfl ?_ | refine swp_cond_false rfl ?_ | (refine GQ.g ?_; refine Q.gq ?_) | (refine GQ.s ?_; refine Q.st ?_))
  refine swp_cond rfl (fun hlt => ?_) (fun hge => ?_)
  · have hlt : k < vs.length := by simpa using hlt
    obtain ⟨v, hv⟩ := mem_get hlt
    obtain ⟨b2, o2, rfl, hr⟩ := h.elem LV.cells_len hv rfl
    repeat (first | (refine GQ.y ?_; refine Q.y ?_) | refine N.tn ?_ | refine N.tr ?_ | refine N.te ?_ | refine N.bn ?_ | refine N.br ?_ | refine N.be ?_ | refine N.bx rfl ?_ | refine swp_seq ?_ | refine swp_region ?_ | refine opsS_nil ?_ | refine swp_ret ?_ | refine swp_skip ?_ | refine swp_exit ?_ | refine swp_block ?_ | refine swp_cond_true rfl ?_ | refine swp_cond_false rfl ?_ | (refine GQ.g ?_; refine Q.gq ?_) | (refine GQ.s ?_; refine Q.st ?_))
    try refine S.y (by apply K.load; exact Y.ldRN rfl hr.sub rfl) ?_
    repeat (first | (refine GQ.y ?_; refine Q.y ?_) | refine N.tn ?_ | refine N.tr ?_ | refine N.te ?_ | refine N.bn ?_ | refine N.br ?_ | refine N.be ?_ | refine N.bx rfl ?_ | refine swp_seq ?_ | refine swp_region ?_ | refine opsS_nil ?_ | refine swp_ret ?_ | refine swp_skip ?_ | refine swp_exit ?_ | refine swp_block ?_ | refine swp_cond_true rfl ?_ | refine swp_cond_false rfl ?_ | (refine GQ.g ?_; refine Q.gq ?_) | (refine GQ.s ?_; refine Q.st ?_) | (refine GQ.g ?_; refine Q.gd ?_) | refine Q.ct rfl ?_ | refine Q.cf rfl ?_ | (refine GQ.a ?_; refine Q.al (fun b1 => ?_)))
    refine S.app rfl rfl (SrcS.sl RdC.row (by rfl) (by rfl)) (by rfl) (by omega) (by omega) (fun a5 c5 => ?_)
    repeat (first | (refine GQ.y ?_; refine Q.y ?_) | refine N.tn ?_ | refine N.tr ?_ | refine N.te ?_ | refine N.bn ?_ | refine N.br ?_ | refine N.be ?_ | refine N.bx rfl ?_ | refine swp_seq ?_ | refine swp_region ?_ | refine opsS_nil ?_ | refine swp_ret ?_ | refine swp_skip ?_ | refine swp_exit ?_ | refine swp_block ?_ | refine swp_cond_true rfl ?_ | refine swp_cond_false rfl ?_ | (refine GQ.g ?_; refine Q.gq ?_) | (refine GQ.s ?_; refine Q.st ?_))
    refine ⟨(k + 1, a5, c5), ⟨rfl, rfl, rfl, congrArg some (congrArg (Value.int .i64) ?_), trivial⟩, ?_, by dsimp only; omega, by dsimp only; omega⟩
    · simp
    · simp only [take_snoc hv, flat_snoc, LV.cells]
      repeat (first | exact Ent.refl _ | exact Ent.nil | refine Ent.pick ?_ | refine Ent.nilS ?_ | refine Ent.nilM ?_ | refine Ent.drop ?_)
  · have hk2 : k = vs.length := by have : ¬ k < vs.length := by simpa using hge
                                   omega
    subst hk2
    rw [List.take_length]
    repeat (first | (refine GQ.y ?_; refine Q.y ?_) | refine N.tn ?_ | refine N.tr ?_ | refine N.te ?_ | refine N.bn ?_ | refine N.br ?_ | refine N.be ?_ | refine N.bx rfl ?_ | refine swp_seq ?_ | refine swp_region ?_ | refine opsS_nil ?_ | refine swp_ret ?_ | refine swp_skip ?_ | refine swp_exit ?_ | refine swp_block ?_ | refine swp_cond_true rfl ?_ | refine swp_cond_false rfl ?_ | (refine GQ.g ?_; refine Q.gq ?_) | (refine GQ.s ?_; refine Q.st ?_))
    refine N.r1 (RV.tmp rfl RV.nil) ?_ ⟨a', c', rfl, rfl⟩
    repeat (first | exact Ent.refl _ | exact Ent.nil | refine Ent.pick ?_ | refine Ent.nilS ?_ | refine Ent.nilM ?_ | refine Ent.drop ?_)
def SameL (p q : List LV) : Bool := decide (p.map LV.abs = q.map LV.abs)
theorem abs_at {p q : List LV} (e : p.map LV.abs = q.map LV.abs) {k : Nat} {v u : LV} (hv : p[k]? = some v) (hu : q[k]? = some u) : v.abs = u.abs := by
  have := congrArg (·[k]?) e
  simpa [hv, hu] using this
set_option maxHeartbeats 2000000 in
theorem Same_spec (a a' : Option Addr) (c c' : Nat) (p q : List LV) (L : List HP) (h : RdS L a p.length 3 (p.flatMap LV.cells)) (h' : RdS L a' q.length 3 (q.flatMap LV.cells))
    (hp : ∀ v ∈ p, RdS L v.a v.body.length 1 (v.body.map B)) (hq : ∀ v ∈ q, RdS L v.a v.body.length 1 (v.body.map B)) (hm : p.length ≤ 100000) :
    CallsS Try.prog 19 [.slice a p.length c, .slice a' q.length c'] L (fun v L' => v = .bool (SameL p q) ∧ L' = L) := by
  refine CallsS.of_body Try.func19 rfl rfl rfl ?_
  repeat (first | (refine GQ.y ?_; refine Q.y ?_) | refine N.tn ?_ | refine N.tr ?_ | refine N.te ?_ | refine N.bn ?_ | refine N.br ?_ | refine N.be ?_ | refine N.bx rfl ?_ | refine swp_seq ?_ | refine swp_region ?_ | refine opsS_nil ?_ | refine swp_ret ?_ | refine swp_skip ?_ | refine swp_exit ?_ | refine swp_block ?_ | refine swp_cond_true rfl ?_ | refine swp_cond_false rfl ?_ | (refine GQ.g ?_; refine Q.gq ?_) | (refine GQ.s ?_; refine Q.st ?_))
  refine swp_cond rfl (fun hne => ?_) (fun heq => ?_)
  · have hne : p.length ≠ q.length := by intro e; simp [e] at hne
    repeat (first | (refine GQ.y ?_; refine Q.y ?_) | refine N.tn ?_ | refine N.tr ?_ | refine N.te ?_ | refine N.bn ?_ | refine N.br ?_ | refine N.be ?_ | refine N.bx rfl ?_ | refine swp_seq ?_ | refine swp_region ?_ | refine opsS_nil ?_ | refine swp_ret ?_ | refine swp_skip ?_ | refine swp_exit ?_ | refine swp_block ?_ | refine swp_cond_true rfl ?_ | refine swp_cond_false rfl ?_ | (refine GQ.g ?_; refine Q.gq ?_) | (refine GQ.s ?_; refine Q.st ?_))
    refine N.r1 (RV.tmp rfl RV.nil) (Ent.refl _) ⟨?_, rfl⟩
    have : p.map LV.abs ≠ q.map LV.abs := fun e => hne (by have := congrArg List.length e; simpa using this)
    simp [SameL, this]
  · have heq : p.length = q.length := by
      have h1 : ((p.length : Int) = (q.length : Int)) := by simpa using heq
      omega
    repeat (first | (refine GQ.y ?_; refine Q.y ?_) | refine N.tn ?_ | refine N.tr ?_ | refine N.te ?_ | refine N.bn ?_ | refine N.br ?_ | refine N.be ?_ | refine N.bx rfl ?_ | refine swp_seq ?_ | refine swp_region ?_ | refine opsS_nil ?_ | refine swp_ret ?_ | refine swp_skip ?_ | refine swp_exit ?_ | refine swp_block ?_ | refine swp_cond_true rfl ?_ | refine swp_cond_false rfl ?_ | (refine GQ.g ?_; refine Q.gq ?_) | (refine GQ.s ?_; refine Q.st ?_))
    refine swp_loop (σ := Nat) (fun k => [(0, .slice a p.length c), (1, .slice a' q.length c'), (12, .int .i64 p.length), (13, .int .i64 k)])
      (fun k => L) (fun k => k ≤ p.length ∧ (p.take k).map LV.abs = (q.take k).map LV.abs) (fun k => p.length - k) 0 ⟨rfl, rfl, rfl, rfl, trivial⟩ (Ent.refl _) (by simp) ?_
    intro k hk
    repeat (first | (refine GQ.y ?_; refine Q.y ?_) | refine N.tn ?_ | refine N.tr ?_ | refine N.te ?_ | refine N.bn ?_ | refine N.br ?_ | refine N.be ?_ | refine N.bx rfl ?_ | refine swp_seq ?_ | refine swp_region ?_ | refine opsS_nil ?_ | refine swp_ret ?_ | refine swp_skip ?_ | refine swp_exit ?_ | refine swp_block ?_ | refine swp_cond_true rfl ?_ | refine swp_cond_false rfl ?_ | (refine GQ.g ?_; refine Q.gq ?_) | (refine GQ.s ?_; refine Q.st ?_))
    refine swp_cond rfl (fun hlt => ?_) (fun hge => ?_)
    · have hlt : k < p.length := by simpa using hlt
      obtain ⟨v, hv⟩ := mem_get hlt
      obtain ⟨u, hu⟩ := mem_get (l := q) (k := k) (by omega)
      obtain ⟨b2, o2, rfl, hr⟩ := h.elem LV.cells_len hv rfl
      obtain ⟨b3, o3, rfl, hr'⟩ := h'.elem LV.cells_len hu rfl
      have hr0 := hr.at (j := 0) rfl
      have hr1 := hr.at (j := 1) rfl
      have hr2 := hr.at (j := 2) rfl
      have hs0 := hr'.at (j := 0) rfl
      have hs1 := hr'.at (j := 1) rfl
      have hs2 := hr'.at (j := 2) rfl
      repeat (first | (refine GQ.y ?_; refine Q.y ?_) | refine N.tn ?_ | refine N.tr ?_ | refine N.te ?_ | refine N.bn ?_ | refine N.br ?_ | refine N.be ?_ | refine N.bx rfl ?_ | refine swp_seq ?_ | refine swp_region ?_ | refine opsS_nil ?_ | refine swp_ret ?_ | refine swp_skip ?_ | refine swp_exit ?_ | refine swp_block ?_ | refine swp_cond_true rfl ?_ | refine swp_cond_false rfl ?_ | (refine GQ.g ?_; refine Q.gq ?_) | (refine GQ.s ?_; refine Q.st ?_))
      by_cases h1 : v.fr = u.fr
      case' pos => by_cases h2 : v.to = u.to
      all_goals
        refine D.start [35] [] [0, 1, 2, 3, 4, 5, 6, 7, 8, 9, 10, 11, 12, 13, 14, 15, 16, 17, 18, 19, 20, 21, 22, 23, 24, 25, 26, 27, 28, 29, 30, 31, 32, 33, 34, 35, 36, 37] _ [] rfl (by kernel_rfl) rfl (by kernel_rfl) NoPanic.no (Ent.refl _) ?_
        repeat (first | refine D.endA ?_ | refine Q.dy rfl rfl rfl ?_ | refine Q.dp rfl rfl rfl ?_ | refine D.end_ ?_ | refine Q.endH ?_ | (refine D.e rfl rfl rfl ?_; (first | refine S.gskip1 rfl ?_ | refine S.gskip rfl ?_ | refine S.y (Y.gskipU rfl) ?_); refine opsS_nil ?_; refine N.tn ?_) | refine Q.dT rfl rfl rfl ?_ | refine Q.dF rfl rfl rfl ?_)
      · refine D.k rfl rfl (by kernel_rfl) rfl ?_
        refine S.guard rfl (S.cr rfl (RSame_spec _ _ _ _ _ _ _ (hp v (List.mem_of_getElem? hv)) (hq u (List.mem_of_getElem? hu))) ?_)
        rintro _ L ⟨rfl, rfl⟩
        repeat (first | (refine GQ.y ?_; refine Q.y ?_) | refine N.tn ?_ | refine N.tr ?_ | refine N.te ?_ | refine N.bn ?_ | refine N.br ?_ | refine N.be ?_ | refine N.bx rfl ?_ | refine swp_seq ?_ | refine swp_region ?_ | refine opsS_nil ?_ | refine swp_ret ?_ | refine swp_skip ?_ | refine swp_exit ?_ | refine swp_block ?_ | refine swp_cond_true rfl ?_ | refine swp_cond_false rfl ?_ | (refine GQ.g ?_; refine Q.gq ?_) | (refine GQ.s ?_; refine Q.st ?_))
        refine ⟨[], Ent.refl _, ?_⟩
        by_cases h3 : v.body = u.body
        · repeat (first | refine D.endA ?_ | refine Q.dy rfl rfl rfl ?_ | refine Q.dp rfl rfl rfl ?_ | refine D.end_ ?_ | refine Q.endH ?_ | (refine D.e rfl rfl rfl ?_; (first | refine S.gskip1 rfl ?_ | refine S.gskip rfl ?_ | refine S.y (Y.gskipU rfl) ?_); refine opsS_nil ?_; refine N.tn ?_) | refine Q.dT rfl rfl rfl ?_ | refine Q.dF rfl rfl rfl ?_)
          repeat (first | (refine GQ.y ?_; refine Q.y ?_) | refine N.tn ?_ | refine N.tr ?_ | refine N.te ?_ | refine N.bn ?_ | refine N.br ?_ | refine N.be ?_ | refine N.bx rfl ?_ | refine swp_seq ?_ | refine swp_region ?_ | refine opsS_nil ?_ | refine swp_ret ?_ | refine swp_skip ?_ | refine swp_exit ?_ | refine swp_block ?_ | refine swp_cond_true rfl ?_ | refine swp_cond_false rfl ?_ | (refine GQ.g ?_; refine Q.gq ?_) | (refine GQ.s ?_; refine Q.st ?_) | (refine GQ.g ?_; refine Q.gd ?_) | refine Q.ct rfl ?_ | refine Q.cf rfl ?_)
          refine ⟨k + 1, ⟨rfl, rfl, rfl, congrArg some (congrArg (Value.int .i64) (by simp)), trivial⟩, Ent.refl _, ⟨by omega, ?_⟩, by omega⟩
          rw [take_snoc hv, take_snoc hu, List.map_append, List.map_append, hk.2]
          simp [LV.abs, h1, h2, h3]
        · repeat (first | refine D.endA ?_ | refine Q.dy rfl rfl rfl ?_ | refine Q.dp rfl rfl rfl ?_ | refine D.end_ ?_ | refine Q.endH ?_ | (refine D.e rfl rfl rfl ?_; (first | refine S.gskip1 rfl ?_ | refine S.gskip rfl ?_ | refine S.y (Y.gskipU rfl) ?_); refine opsS_nil ?_; refine N.tn ?_) | refine Q.dT rfl rfl rfl ?_ | refine Q.dF rfl rfl rfl ?_)
          repeat (first | (refine GQ.y ?_; refine Q.y ?_) | refine N.tn ?_ | refine N.tr ?_ | refine N.te ?_ | refine N.bn ?_ | refine N.br ?_ | refine N.be ?_ | refine N.bx rfl ?_ | refine swp_seq ?_ | refine swp_region ?_ | refine opsS_nil ?_ | refine swp_ret ?_ | refine swp_skip ?_ | refine swp_exit ?_ | refine swp_block ?_ | refine swp_cond_true rfl ?_ | refine swp_cond_false rfl ?_ | (refine GQ.g ?_; refine Q.gq ?_) | (refine GQ.s ?_; refine Q.st ?_) | (refine GQ.g ?_; refine Q.gd ?_) | refine Q.ct rfl ?_ | refine Q.cf rfl ?_)
          refine N.r1 (RV.tmp rfl RV.nil) (Ent.refl _) ⟨?_, rfl⟩
          rw [SameL, decide_eq_false (fun e => h3 ?_)]
          exact (Prod.mk.inj (Prod.mk.inj (abs_at e hv hu)).2).2
      · repeat (first | (refine GQ.y ?_; refine Q.y ?_) | refine N.tn ?_ | refine N.tr ?_ | refine N.te ?_ | refine N.bn ?_ | refine N.br ?_ | refine N.be ?_ | refine N.bx rfl ?_ | refine swp_seq ?_ | refine swp_region ?_ | refine opsS_nil ?_ | refine swp_ret ?_ | refine swp_skip ?_ | refine swp_exit ?_ | refine swp_block ?_ | refine swp_cond_true rfl ?_ | refine swp_cond_false rfl ?_ | (refine GQ.g ?_; refine Q.gq ?_) | (refine GQ.s ?_; refine Q.st ?_) | (refine GQ.g ?_; refine Q.gd ?_) | refine Q.ct rfl ?_ | refine Q.cf rfl ?_)
        refine N.r1 (RV.tmp rfl RV.nil) (Ent.refl _) ⟨?_, rfl⟩
        rw [SameL, decide_eq_false (fun e => h2 ?_)]
        exact (Prod.mk.inj (Prod.mk.inj (abs_at e hv hu)).2).1
      · repeat (first | (refine GQ.y ?_; refine Q.y ?_) | refine N.tn ?_ | refine N.tr ?_ | refine N.te ?_ | refine N.bn ?_ | refine N.br ?_ | refine N.be ?_ | refine N.bx rfl ?_ | refine swp_seq ?_ | refine swp_region ?_ | refine opsS_nil ?_ | refine swp_ret ?_ | refine swp_skip ?_ | refine swp_exit ?_ | refine swp_block ?_ | refine swp_cond_true rfl ?_ | refine swp_cond_false rfl ?_ | (refine GQ.g ?_; refine Q.gq ?_) | (refine GQ.s ?_; refine Q.st ?_) | (refine GQ.g ?_; refine Q.gd ?_) | refine Q.ct rfl ?_ | refine Q.cf rfl ?_)
        refine N.r1 (RV.tmp rfl RV.nil) (Ent.refl _) ⟨?_, rfl⟩
        rw [SameL, decide_eq_false (fun e => h1 ?_)]
        exact (Prod.mk.inj (abs_at e hv hu)).1
    · have hk2 : k = p.length := by have : ¬ k < p.length := by simpa using hge
                                    omega
      subst hk2
      repeat (first | (refine GQ.y ?_; refine Q.y ?_) | refine N.tn ?_ | refine N.tr ?_ | refine N.te ?_ | refine N.bn ?_ | refine N.br ?_ | refine N.be ?_ | refine N.bx rfl ?_ | refine swp_seq ?_ | refine swp_region ?_ | refine opsS_nil ?_ | refine swp_ret ?_ | refine swp_skip ?_ | refine swp_exit ?_ | refine swp_block ?_ | refine swp_cond_true rfl ?_ | refine swp_cond_false rfl ?_ | (refine GQ.g ?_; refine Q.gq ?_) | (refine GQ.s ?_; refine Q.st ?_))
      refine N.r1 (RV.tmp rfl RV.nil) (Ent.refl _) ⟨?_, rfl⟩
      have := hk.2
      rw [heq, List.take_length, ← heq, List.take_length] at this
      simp [SameL, this]
theorem spAt_set {sp : List Bool} {x y c d : Nat} {v : Bool} (hs : sp.length = 256) (hx : x < 16) (hy : y < 16) (hc : c < 16) (hd : d < 16) :
    spAt ((sp.set (x * 16 + y) v).set (y * 16 + x) v) c d = if (x = c ∧ y = d) ∨ (x = d ∧ y = c) then v else spAt sp c d := by
  unfold spAt
  simp only [Int.toNat_natCast]
  rw [List.getElem?_set, List.getElem?_set]
  simp only [List.length_set]
  by_cases h1 : y * 16 + x = c * 16 + d
  · have e : x = d ∧ y = c := by omega
    have hl : c * 16 + d < sp.length := by omega
    rw [if_pos h1, h1, if_pos hl, if_pos (.inr e)]; rfl
  · rw [if_neg h1]
    by_cases h2 : x * 16 + y = c * 16 + d
    · have e : x = c ∧ y = d := by omega
      have hl : c * 16 + d < sp.length := by omega
      rw [if_pos h2, h2, if_pos hl, if_pos (.inl e)]; rfl
    · rw [if_neg h2, if_neg (by omega)]
theorem Split_any (b : Nat) (nodes : Int) (ls : List Let) (sp : List Bool) (x y : Int) (v : Bool) (L : List HP) (hok : netOK nodes ls sp) :
    CallsS Try.prog 10 [.pointer (some ⟨b, 0, none⟩), .int .i64 x, .int .i64 y, .bool v] (netH b nodes ls sp :: L) (fun r L' => ∃ (e : Int) (sp' : List Bool), r = .int .i64 e ∧
      ((0 ≤ x ∧ 0 ≤ y ∧ x < nodes ∧ y < nodes ∧ x ≠ y) ∧ e = 0 ∨ ¬ (0 ≤ x ∧ 0 ≤ y ∧ x < nodes ∧ y < nodes ∧ x ≠ y) ∧ e = 1) ∧ sp'.length = 256 ∧
      (∀ c d : Int, 0 ≤ c → 0 ≤ d → c < 16 → d < 16 → spAt sp' c d = if (0 ≤ x ∧ 0 ≤ y ∧ x < nodes ∧ y < nodes ∧ x ≠ y) ∧ ((x = c ∧ y = d) ∨ (x = d ∧ y = c)) then v else spAt sp c d) ∧ L' = netH b nodes ls sp' :: L) := by
  by_cases h : 0 ≤ x ∧ 0 ≤ y ∧ x < nodes ∧ y < nodes ∧ x ≠ y
  · obtain ⟨x, rfl⟩ := Int.eq_ofNat_of_zero_le h.1
    obtain ⟨y, rfl⟩ := Int.eq_ofNat_of_zero_le h.2.1
    refine (Split_ok b nodes ls sp x y v L hok h.2.2.1 h.2.2.2.1 (by omega)).mono ?_
    rintro r L' ⟨rfl, rfl⟩
    have hn := hok.2.1
    refine ⟨0, _, rfl, .inl ⟨h, rfl⟩, by rw [List.length_set, List.length_set, hok.2.2.1], fun c d h1 h2 h3 h4 => ?_, rfl⟩
    obtain ⟨c, rfl⟩ := Int.eq_ofNat_of_zero_le h1
    obtain ⟨d, rfl⟩ := Int.eq_ofNat_of_zero_le h2
    rw [spAt_set hok.2.2.1 (by omega) (by omega) (by omega) (by omega)]
    by_cases hh : (x = c ∧ y = d) ∨ (x = d ∧ y = c)
    · rw [if_pos hh, if_pos ⟨h, by omega⟩]
    · rw [if_neg hh, if_neg (by omega)]
  · refine (Split_bad b nodes ls sp x y v L h).mono ?_
    rintro r L' ⟨rfl, rfl⟩
    exact ⟨1, sp, rfl, .inr ⟨h, rfl⟩, hok.2.2.1, fun c d _ _ _ _ => by rw [if_neg (fun k => h k.1)], rfl⟩
end Go.Proofs.Ytdjglpmnfckimaa
