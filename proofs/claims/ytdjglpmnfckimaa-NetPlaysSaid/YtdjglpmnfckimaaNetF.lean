/- The net's functions, walked: slices.Delete; Drop. No condition. -/
import Derived.Test.YtdjglpmnfckimaaNetE
set_option linter.unusedVariables false
set_option linter.unusedSimpArgs false
namespace Go.Proofs.Ytdjglpmnfckimaa
open Go Go.SX
attribute [local irreducible] swp opsS thenS blockS retS CallsS St Ent YieldS anyS drawS
theorem put_here (p c q s : List Value) (h : c.length = s.length) : putAt (p ++ c ++ q) p.length s = p ++ s ++ q := by
  have h1 : (p ++ c ++ q).take p.length = p := by rw [List.append_assoc, List.take_left]
  have h2 : (p ++ c ++ q).drop (p.length + s.length) = q := by rw [← h, ← List.length_append, List.drop_left]
  unfold putAt; rw [h1, h2]
theorem cut_at (l : List Value) (k : Nat) (h : k ≤ l.length) : ∃ p q, l = p ++ q ∧ p.length = k := ⟨l.take k, l.drop k, (List.take_append_drop k l).symm, by simp; omega⟩
theorem del_cells (p x s r z : List Value) (h : z.length = x.length) : putAt (putAt (p ++ x ++ s ++ r) p.length s) (p.length + s.length) z = p ++ s ++ z ++ r := by
  obtain ⟨c, d, e, hc⟩ := cut_at (x ++ s) s.length (by simp)
  have hd : d.length = x.length := by have := congrArg List.length e; simp at this; omega
  have e1 : p ++ x ++ s ++ r = p ++ c ++ (d ++ r) := by rw [List.append_assoc p x s, e]; simp
  rw [e1, put_here p c (d ++ r) s hc]
  have e2 : p ++ s ++ (d ++ r) = (p ++ s) ++ d ++ r := by simp
  rw [e2, ← List.length_append, put_here (p ++ s) d r z (by omega)]
theorem split_at {α : Type} (l : List α) (k : Nat) (h : k < l.length) : ∃ p x s, l = p ++ x :: s ∧ p.length = k := by
  refine ⟨l.take k, l[k], l.drop (k + 1), ?_, by simp; omega⟩
  rw [← List.drop_eq_getElem_cons h, List.take_append_drop]
theorem delCells (vs : List LV) (k : Nat) (hk : k < vs.length) (rest zs : List Value) (hz : zs.length = 3) :
    putAt (putAt (vs.flatMap LV.cells ++ rest) (k * 3) ((vs.flatMap LV.cells).drop ((k + 1) * 3))) (0 + (vs.length - 1) * 3) (rep (vs.length - (vs.length - 1)) zs) = (vs.eraseIdx k).flatMap LV.cells ++ (zs ++ rest) := by
  obtain ⟨p, x, s, rfl, rfl⟩ := split_at vs k hk
  have hp := flat_len LV.cells_len p
  have hs := flat_len LV.cells_len s
  have e1 : (p ++ x :: s).length - ((p ++ x :: s).length - 1) = 1 := by simp only [List.length_append, List.length_cons]; omega
  have e2 : (p ++ x :: s).eraseIdx p.length = p ++ s := by
    rw [List.eraseIdx_append_of_length_le (Nat.le_refl _)]; simp
  have e3 : (p ++ x :: s).flatMap LV.cells = p.flatMap LV.cells ++ x.cells ++ s.flatMap LV.cells := by simp
  have e4 : (p.flatMap LV.cells ++ x.cells ++ s.flatMap LV.cells).drop ((p.length + 1) * 3) = s.flatMap LV.cells := by
    have : (p.length + 1) * 3 = (p.flatMap LV.cells ++ x.cells).length := by rw [List.length_append, hp, LV.cells_len]; omega
    rw [this, List.drop_left]
  have e5 : 0 + ((p ++ x :: s).length - 1) * 3 = (p.flatMap LV.cells).length + (s.flatMap LV.cells).length := by
    rw [hp, hs]; simp only [List.length_append, List.length_cons]; omega
  have e6 : rep 1 zs = zs := by simp [rep]
  rw [e1, e2, e3, e4, e5, e6, ← hp]
  have := del_cells (p.flatMap LV.cells) x.cells (s.flatMap LV.cells) rest zs (by rw [hz, LV.cells_len])
  rw [this]
  simp
theorem cells_one (vs : List LV) (x : Value) (h : x ∈ vs.flatMap LV.cells) : x.oneCell' = true := by
  simp only [List.mem_flatMap, LV.cells, List.mem_cons, List.not_mem_nil, or_false] at h
  obtain ⟨v, _, rfl | rfl | rfl⟩ := h <;> rfl
set_option maxHeartbeats 1000000 in
theorem Delete_spec (a : Option Addr) (c : Nat) (vs : List LV) (k : Nat) (L : List HP) (hk : k < vs.length) (hv : vs.length ≤ 1000000) :
    CallsS Try.prog 31 [.slice a vs.length c, .int .i64 k, .int .i64 ((k : Int) + 1)] (slO 33 3 a vs.length c (vs.flatMap LV.cells) :: L)
      (fun v L' => v = .slice a (vs.eraseIdx k).length c ∧ L' = slO 33 3 a (vs.eraseIdx k).length c ((vs.eraseIdx k).flatMap LV.cells) :: L) := by
  have hcl := flat_len LV.cells_len vs
  refine CallsS.slO (by omega) fun b rest ha hmc hrl => ?_
  subst ha
  have hel : (vs.eraseIdx k).length = vs.length - 1 := by simp [List.length_eraseIdx, hk]
  refine CallsS.of_body Try.func31 rfl rfl rfl ?_
  repeat (first | (refine GQ.y ?_; refine Q.y ?_) | refine N.tn ?_ | refine N.tr ?_ | refine N.te ?_ | refine N.bn ?_ | refine N.br ?_ | refine N.be ?_ | refine N.bx rfl ?_ | refine swp_seq ?_ | refine swp_region ?_ | refine opsS_nil ?_ | refine swp_ret ?_ | refine swp_skip ?_ | refine swp_exit ?_ | refine swp_block ?_ | refine swp_cond_true rfl ?_ | refine swp_cond_false rfl ?_ | (refine GQ.g ?_; refine Q.gq ?_) | (refine GQ.s ?_; refine Q.st ?_) | (refine GQ.g ?_; refine Q.gd ?_) | refine Q.ct rfl ?_ | refine Q.cf rfl ?_)
  refine S.y (Y.sl3 (l := k) (h := k + 1) (mm := vs.length) rfl rfl rfl rfl rfl (by simp) rfl (by omega) (by omega) (by omega)) ?_
  repeat (first | (refine GQ.y ?_; refine Q.y ?_) | refine N.tn ?_ | refine N.tr ?_ | refine N.te ?_ | refine N.bn ?_ | refine N.br ?_ | refine N.be ?_ | refine N.bx rfl ?_ | refine swp_seq ?_ | refine swp_region ?_ | refine opsS_nil ?_ | refine swp_ret ?_ | refine swp_skip ?_ | refine swp_exit ?_ | refine swp_block ?_ | refine swp_cond_true rfl ?_ | refine swp_cond_false rfl ?_ | (refine GQ.g ?_; refine Q.gq ?_) | (refine GQ.s ?_; refine Q.st ?_) | (refine GQ.g ?_; refine Q.gd ?_) | refine Q.ct rfl ?_ | refine Q.cf rfl ?_)
  refine Q.dgo [false] [6] [] [0, 1, 2, 3, 4, 5, 6, 7] ?_
  repeat (first | refine D.endA ?_ | refine Q.dy rfl rfl rfl ?_ | refine Q.dp rfl rfl rfl ?_ | refine D.end_ ?_ | refine Q.endH ?_ | (refine D.e rfl rfl rfl ?_; (first | refine S.gskip1 rfl ?_ | refine S.gskip rfl ?_ | refine S.y (Y.gskipU rfl) ?_); refine opsS_nil ?_; refine N.tn ?_) | refine Q.dT rfl rfl rfl ?_ | refine Q.dF rfl rfl rfl ?_)
  refine D.yp rfl rfl rfl (Y.slT (h := k) rfl rfl rfl (by omega)) ?_
  repeat (first | refine D.endA ?_ | refine Q.dy rfl rfl rfl ?_ | refine Q.dp rfl rfl rfl ?_ | refine D.end_ ?_ | refine Q.endH ?_ | (refine D.e rfl rfl rfl ?_; (first | refine S.gskip1 rfl ?_ | refine S.gskip rfl ?_ | refine S.y (Y.gskipU rfl) ?_); refine opsS_nil ?_; refine N.tn ?_) | refine Q.dT rfl rfl rfl ?_ | refine Q.dF rfl rfl rfl ?_)
  refine D.yp rfl rfl rfl (Y.slF (l := k + 1) rfl rfl (by simp) (by omega)) ?_
  repeat (first | refine D.endA ?_ | refine Q.dy rfl rfl rfl ?_ | refine Q.dp rfl rfl rfl ?_ | refine D.end_ ?_ | refine Q.endH ?_ | (refine D.e rfl rfl rfl ?_; (first | refine S.gskip1 rfl ?_ | refine S.gskip rfl ?_ | refine S.y (Y.gskipU rfl) ?_); refine opsS_nil ?_; refine N.tn ?_) | refine Q.dT rfl rfl rfl ?_ | refine Q.dF rfl rfl rfl ?_)
  refine D.e rfl rfl rfl ?_
  have hsrc := fun L0 => RdS.from (L := L0) (b := b) (o := 0) (m := vs.length) (c := c) (l := k + 1) (sz := 3) (cs := vs.flatMap LV.cells)
  refine S.appIn rfl rfl (SrcS.rd (hsrc _ (RdC.find fun j v e => ?_) hcl (by omega) hmc) ?_) hrl (by omega) rfl ?_
  · have hj : j < (vs.flatMap LV.cells).length := (List.getElem?_eq_some_iff.1 e).1
    rw [Nat.zero_add, List.getElem?_append_left hj]; exact e
  · exact List.all_eq_true.2 fun x hx => cells_one vs x (List.mem_of_mem_drop hx)
  repeat (first | (refine GQ.y ?_; refine Q.y ?_) | refine N.tn ?_ | refine N.tr ?_ | refine N.te ?_ | refine N.bn ?_ | refine N.br ?_ | refine N.be ?_ | refine N.bx rfl ?_ | refine swp_seq ?_ | refine swp_region ?_ | refine opsS_nil ?_ | refine swp_ret ?_ | refine swp_skip ?_ | refine swp_exit ?_ | refine swp_block ?_ | refine swp_cond_true rfl ?_ | refine swp_cond_false rfl ?_ | (refine GQ.g ?_; refine Q.gq ?_) | (refine GQ.s ?_; refine Q.st ?_))
  repeat (first | refine D.endA ?_ | refine Q.dy rfl rfl rfl ?_ | refine Q.dp rfl rfl rfl ?_ | refine D.end_ ?_ | refine Q.endH ?_ | (refine D.e rfl rfl rfl ?_; (first | refine S.gskip1 rfl ?_ | refine S.gskip rfl ?_ | refine S.y (Y.gskipU rfl) ?_); refine opsS_nil ?_; refine N.tn ?_) | refine Q.dT rfl rfl rfl ?_ | refine Q.dF rfl rfl rfl ?_)
  repeat (first | (refine GQ.y ?_; refine Q.y ?_) | refine N.tn ?_ | refine N.tr ?_ | refine N.te ?_ | refine N.bn ?_ | refine N.br ?_ | refine N.be ?_ | refine N.bx rfl ?_ | refine swp_seq ?_ | refine swp_region ?_ | refine opsS_nil ?_ | refine swp_ret ?_ | refine swp_skip ?_ | refine swp_exit ?_ | refine swp_block ?_ | refine swp_cond_true rfl ?_ | refine swp_cond_false rfl ?_ | (refine GQ.g ?_; refine Q.gq ?_) | (refine GQ.s ?_; refine Q.st ?_) | (refine GQ.g ?_; refine Q.gd ?_) | refine Q.ct rfl ?_ | refine Q.cf rfl ?_)
  refine S.y (Y.slB (l := vs.length - 1) (h := vs.length) rfl rfl rfl ?_ ?_ (by omega) (by omega)) ?_
  · omega
  · rfl
  repeat (first | (refine GQ.y ?_; refine Q.y ?_) | refine N.tn ?_ | refine N.tr ?_ | refine N.te ?_ | refine N.bn ?_ | refine N.br ?_ | refine N.be ?_ | refine N.bx rfl ?_ | refine swp_seq ?_ | refine swp_region ?_ | refine opsS_nil ?_ | refine swp_ret ?_ | refine swp_skip ?_ | refine swp_exit ?_ | refine swp_block ?_ | refine swp_cond_true rfl ?_ | refine swp_cond_false rfl ?_ | (refine GQ.g ?_; refine Q.gq ?_) | (refine GQ.s ?_; refine Q.st ?_) | (refine GQ.g ?_; refine Q.gd ?_) | refine Q.ct rfl ?_ | refine Q.cf rfl ?_)
  have hne : ¬ c = vs.length - 1 := by omega
  rw [if_neg hne]
  refine S.clr rfl (by rfl) (by rfl) ?_ rfl ?_
  · have : (putAt (vs.flatMap LV.cells ++ rest) (k * 3) ((vs.flatMap LV.cells).drop ((k + 1) * 3))).length = (vs.flatMap LV.cells ++ rest).length := by
      have h1 : (vs.flatMap LV.cells ++ rest).length = (vs.flatMap LV.cells).length + rest.length := List.length_append
      simp only [putAt, List.length_append, List.length_take, List.length_drop]; omega
    rw [this, hrl]; omega
  repeat (first | (refine GQ.y ?_; refine Q.y ?_) | refine N.tn ?_ | refine N.tr ?_ | refine N.te ?_ | refine N.bn ?_ | refine N.br ?_ | refine N.be ?_ | refine N.bx rfl ?_ | refine swp_seq ?_ | refine swp_region ?_ | refine opsS_nil ?_ | refine swp_ret ?_ | refine swp_skip ?_ | refine swp_exit ?_ | refine swp_block ?_ | refine swp_cond_true rfl ?_ | refine swp_cond_false rfl ?_ | (refine GQ.g ?_; refine Q.gq ?_) | (refine GQ.s ?_; refine Q.st ?_) | (refine GQ.g ?_; refine Q.gd ?_) | refine Q.ct rfl ?_ | refine Q.cf rfl ?_)
  refine N.r1 (RV.tmp rfl RV.nil) ?_ ⟨by rw [hel]; congr 1; omega, rfl⟩
  have hfin := delCells vs k hk rest [.int .i64 0, .int .i64 0, .slice none 0 0] rfl
  rw [hfin]
  refine slO_shut (flat_len LV.cells_len _) (by omega) ?_
  have := flat_len LV.cells_len (vs.eraseIdx k)
  simp only [List.length_append, List.length_cons, List.length_nil] at hrl ⊢
  omega
set_option maxHeartbeats 1000000 in
theorem Drop_arg (b : Nat) (nodes : Int) (ls : List Let) (sp : List Bool) (i : Int) (L : List HP) (hi : ¬ (0 ≤ i ∧ i < ls.length)) :
    CallsS Try.prog 14 [.pointer (some ⟨b, 0, none⟩), .int .i64 i] (netH b nodes ls sp :: L) (fun v L' => v = .int .i64 1 ∧ L' = netH b nodes ls sp :: L) := by
  refine calls_net fun vs a c M t hvs hgo => ?_
  have hvl := len_map hvs
  refine CallsS.of_body Try.func14 rfl rfl rfl ?_
  repeat (first | (refine GQ.y ?_; refine Q.y ?_) | refine N.tn ?_ | refine N.tr ?_ | refine N.te ?_ | refine N.bn ?_ | refine N.br ?_ | refine N.be ?_ | refine N.bx rfl ?_ | refine swp_seq ?_ | refine swp_region ?_ | refine opsS_nil ?_ | refine swp_ret ?_ | refine swp_skip ?_ | refine swp_exit ?_ | refine swp_block ?_ | refine swp_cond_true rfl ?_ | refine swp_cond_false rfl ?_ | (refine GQ.g ?_; refine Q.gq ?_) | (refine GQ.s ?_; refine Q.st ?_))
  by_cases h0 : i < 0
  all_goals
    repeat (first | (refine GQ.y ?_; refine Q.y ?_) | refine N.tn ?_ | refine N.tr ?_ | refine N.te ?_ | refine N.bn ?_ | refine N.br ?_ | refine N.be ?_ | refine N.bx rfl ?_ | refine swp_seq ?_ | refine swp_region ?_ | refine opsS_nil ?_ | refine swp_ret ?_ | refine swp_skip ?_ | refine swp_exit ?_ | refine swp_block ?_ | refine swp_cond_true rfl ?_ | refine swp_cond_false rfl ?_ | (refine GQ.g ?_; refine Q.gq ?_) | (refine GQ.s ?_; refine Q.st ?_) | (refine GQ.g ?_; refine Q.gd ?_) | refine Q.ct rfl ?_ | refine Q.cf rfl ?_)
    refine N.r1 (RV.tmp rfl RV.nil) ?_ ⟨rfl, rfl⟩
    refine Ent.trans ?_ (net_shut (a := a) (c := c) (t := t) vs hgo hvs rfl rfl)
    repeat (first | exact Ent.refl _ | exact Ent.nil | refine Ent.pick ?_ | refine Ent.nilS ?_ | refine Ent.nilM ?_ | refine Ent.drop ?_)
theorem abs_erase (vs : List LV) (k : Nat) : (vs.eraseIdx k).map LV.abs = (vs.map LV.abs).eraseIdx k := by
  induction vs generalizing k with
  | nil => simp
  | cons v vs ih => cases k <;> simp_all
set_option maxHeartbeats 1000000 in
theorem Drop_ok (b : Nat) (nodes : Int) (ls : List Let) (sp : List Bool) (k : Nat) (L : List HP) (hok : netOK nodes ls sp) (hk : k < ls.length) :
    CallsS Try.prog 14 [.pointer (some ⟨b, 0, none⟩), .int .i64 k] (netH b nodes ls sp :: L) (fun v L' => v = .int .i64 0 ∧ L' = netH b nodes (ls.eraseIdx k) sp :: L) := by
  refine calls_net fun vs a c M t hvs hgo => ?_
  have hvl := len_map hvs
  have hvb : vs.length ≤ 100000 := by have := hok.2.2.2.2; omega
  refine CallsS.of_body Try.func14 rfl rfl rfl ?_
  repeat (first | (refine GQ.y ?_; refine Q.y ?_) | refine N.tn ?_ | refine N.tr ?_ | refine N.te ?_ | refine N.bn ?_ | refine N.br ?_ | refine N.be ?_ | refine N.bx rfl ?_ | refine swp_seq ?_ | refine swp_region ?_ | refine opsS_nil ?_ | refine swp_ret ?_ | refine swp_skip ?_ | refine swp_exit ?_ | refine swp_block ?_ | refine swp_cond_true rfl ?_ | refine swp_cond_false rfl ?_ | (refine GQ.g ?_; refine Q.gq ?_) | (refine GQ.s ?_; refine Q.st ?_) | (refine GQ.g ?_; refine Q.gd ?_) | refine Q.ct rfl ?_ | refine Q.cf rfl ?_)
  refine S.cq rfl (Delete_spec a c vs k _ (by omega) (by omega)) ?_
  rintro _ _ ⟨rfl, rfl⟩
  repeat (first | (refine GQ.y ?_; refine Q.y ?_) | refine N.tn ?_ | refine N.tr ?_ | refine N.te ?_ | refine N.bn ?_ | refine N.br ?_ | refine N.be ?_ | refine N.bx rfl ?_ | refine swp_seq ?_ | refine swp_region ?_ | refine opsS_nil ?_ | refine swp_ret ?_ | refine swp_skip ?_ | refine swp_exit ?_ | refine swp_block ?_ | refine swp_cond_true rfl ?_ | refine swp_cond_false rfl ?_ | (refine GQ.g ?_; refine Q.gq ?_) | (refine GQ.s ?_; refine Q.st ?_) | (refine GQ.g ?_; refine Q.gd ?_) | refine Q.ct rfl ?_ | refine Q.cf rfl ?_)
  refine N.r1 (RV.tmp rfl RV.nil) ?_ ⟨rfl, rfl⟩
  refine Ent.trans ?_ (net_shut (a := a) (m := (vs.eraseIdx k).length) (c := c) (t := t) (M := M) (cs := (vs.eraseIdx k).flatMap LV.cells) (vs.eraseIdx k) (fun v hv => hgo v (List.mem_of_mem_eraseIdx hv)) (by rw [abs_erase, hvs]) rfl rfl)
  repeat (first | exact Ent.refl _ | exact Ent.nil | refine Ent.pick ?_ | refine Ent.nilS ?_ | refine Ent.nilM ?_ | refine Ent.drop ?_)
end Go.Proofs.Ytdjglpmnfckimaa
