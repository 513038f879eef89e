/- The net's functions, walked: Len; Open. No condition. -/
import Derived.Test.YtdjglpmnfckimaaNetC
set_option linter.unusedVariables false
set_option linter.unusedSimpArgs false
namespace Go.Proofs.Ytdjglpmnfckimaa
open Go Go.SX
attribute [local irreducible] swp opsS thenS blockS retS CallsS St Ent YieldS anyS drawS
theorem fst_map {vs : List LV} {ls : List Let} (h : vs.map LV.abs = ls) {i : Nat} {v : LV} (hv : vs[i]? = some v) : ls[i]? = some v.abs := by rw [← h]; simp [hv]
theorem len_map {vs : List LV} {ls : List Let} (h : vs.map LV.abs = ls) : vs.length = ls.length := by rw [← h]; simp
set_option maxHeartbeats 400000 in
theorem Len_spec (b : Nat) (nodes : Int) (ls : List Let) (sp : List Bool) (L : List HP) :
    CallsS Try.prog 12 [.pointer (some ⟨b, 0, none⟩)] (netH b nodes ls sp :: L) (fun v L' => v = .int .i64 ls.length ∧ L' = netH b nodes ls sp :: L) := by
  refine calls_net fun vs a c M t hvs hgo => ?_
  refine CallsS.of_body Try.func12 rfl rfl rfl ?_
  repeat (first | (refine GQ.y ?_; refine Q.y ?_) | refine N.tn ?_ | refine N.tr ?_ | refine N.te ?_ | refine N.bn ?_ | refine N.br ?_ | refine N.be ?_ | refine N.bx rfl ?_ | refine swp_seq ?_ | refine swp_region ?_ | refine opsS_nil ?_ | refine swp_ret ?_ | refine swp_skip ?_ | refine swp_exit ?_ | refine swp_block ?_ | refine swp_cond_true rfl ?_ | refine swp_cond_false rfl ?_ | (refine GQ.g ?_; refine Q.gq ?_) | (refine GQ.s ?_; refine Q.st ?_))
  refine N.r1 (RV.tmp rfl RV.nil) ?_ ⟨by rw [len_map hvs], rfl⟩
  refine Ent.trans ?_ (net_shut (a := a) (c := c) (t := t) vs hgo hvs rfl rfl)
  repeat (first | exact Ent.refl _ | exact Ent.nil | refine Ent.pick ?_ | refine Ent.nilS ?_ | refine Ent.nilM ?_ | refine Ent.drop ?_)
/-- The cell of a pair of nodes. -/
theorem sp_cell {nodes : Int} {hd : Value} {sp : List Bool} (hs : sp.length = 256) {x y : Nat} (hx : x < 16) (hy : y < 16) :
    (Value.int .i64 nodes :: hd :: sp.map Value.bool)[0 + 2 + x * 16 + y * 1]? = some (.bool ((sp[x * 16 + y]?).getD false)) := by
  have : 0 + 2 + x * 16 + y * 1 = x * 16 + y + 1 + 1 := by omega
  rw [this, List.getElem?_cons_succ, List.getElem?_cons_succ, List.getElem?_map]
  have : x * 16 + y < sp.length := by omega
  simp [List.getElem?_eq_getElem this]
set_option maxHeartbeats 1000000 in
theorem Open_spec (b : Nat) (nodes : Int) (ls : List Let) (sp : List Bool) (i : Int) (L : List HP) (hok : netOK nodes ls sp) :
    CallsS Try.prog 15 [.pointer (some ⟨b, 0, none⟩), .int .i64 i] (netH b nodes ls sp :: L) (fun v L' => v = .bool (openB ls sp i) ∧ L' = netH b nodes ls sp :: L) := by
  refine calls_net fun vs a c M t hvs hgo => CallsS.addr a fun ha => ?_
  have hvl := len_map hvs
  have shut : ∀ {L' : List HP}, L' = netH b nodes ls sp :: L → Ent (pt b (cl (.int .i64 nodes :: .slice a vs.length c :: sp.map .bool) t) :: slO 33 3 a vs.length c (vs.flatMap LV.cells) :: roM M :: L) L' := fun e => e ▸ net_shut (a := a) (c := c) (t := t) vs hgo hvs rfl rfl
  refine CallsS.of_body Try.func15 rfl rfl rfl ?_
  repeat (first | (refine GQ.y ?_; refine Q.y ?_) | refine N.tn ?_ | refine N.tr ?_ | refine N.te ?_ | refine N.bn ?_ | refine N.br ?_ | refine N.be ?_ | refine N.bx rfl ?_ | refine swp_seq ?_ | refine swp_region ?_ | refine opsS_nil ?_ | refine swp_ret ?_ | refine swp_skip ?_ | refine swp_exit ?_ | refine swp_block ?_ | refine swp_cond_true rfl ?_ | refine swp_cond_false rfl ?_ | (refine GQ.g ?_; refine Q.gq ?_) | (refine GQ.s ?_; refine Q.st ?_))
  refine Q.dgo [true, true, true] [] [] [0, 1, 2, 3, 4, 5, 6, 7, 8, 9, 10, 11, 12, 13, 14, 15, 16, 17, 18, 19, 20, 21, 22, 23, 24, 25, 26, 27, 28, 29, 30, 31, 32, 33, 34, 35, 36, 37, 38, 39, 40] ?_
  by_cases h0 : 0 ≤ i
  case neg =>
    repeat (first | refine D.endA ?_ | refine Q.dy rfl rfl rfl ?_ | refine Q.dp rfl rfl rfl ?_ | refine D.end_ ?_ | refine Q.endH ?_ | (refine D.e rfl rfl rfl ?_; (first | refine S.gskip1 rfl ?_ | refine S.gskip rfl ?_ | refine S.y (Y.gskipU rfl) ?_); refine opsS_nil ?_; refine N.tn ?_) | refine Q.dT rfl rfl rfl ?_ | refine Q.dF rfl rfl rfl ?_)
    repeat (first | (refine GQ.y ?_; refine Q.y ?_) | refine N.tn ?_ | refine N.tr ?_ | refine N.te ?_ | refine N.bn ?_ | refine N.br ?_ | refine N.be ?_ | refine N.bx rfl ?_ | refine swp_seq ?_ | refine swp_region ?_ | refine opsS_nil ?_ | refine swp_ret ?_ | refine swp_skip ?_ | refine swp_exit ?_ | refine swp_block ?_ | refine swp_cond_true rfl ?_ | refine swp_cond_false rfl ?_ | (refine GQ.g ?_; refine Q.gq ?_) | (refine GQ.s ?_; refine Q.st ?_))
    refine N.r1 (RV.tmp rfl RV.nil) (shut rfl) ⟨by simp [openB, h0], rfl⟩
  obtain ⟨k, rfl⟩ := Int.eq_ofNat_of_zero_le h0
  by_cases h1 : k < vs.length
  case neg =>
    repeat (first | refine D.endA ?_ | refine Q.dy rfl rfl rfl ?_ | refine Q.dp rfl rfl rfl ?_ | refine D.end_ ?_ | refine Q.endH ?_ | (refine D.e rfl rfl rfl ?_; (first | refine S.gskip1 rfl ?_ | refine S.gskip rfl ?_ | refine S.y (Y.gskipU rfl) ?_); refine opsS_nil ?_; refine N.tn ?_) | refine Q.dT rfl rfl rfl ?_ | refine Q.dF rfl rfl rfl ?_)
    repeat (first | (refine GQ.y ?_; refine Q.y ?_) | refine N.tn ?_ | refine N.tr ?_ | refine N.te ?_ | refine N.bn ?_ | refine N.br ?_ | refine N.be ?_ | refine N.bx rfl ?_ | refine swp_seq ?_ | refine swp_region ?_ | refine opsS_nil ?_ | refine swp_ret ?_ | refine swp_skip ?_ | refine swp_exit ?_ | refine swp_block ?_ | refine swp_cond_true rfl ?_ | refine swp_cond_false rfl ?_ | (refine GQ.g ?_; refine Q.gq ?_) | (refine GQ.s ?_; refine Q.st ?_))
    refine N.r1 (RV.tmp rfl RV.nil) (shut rfl) ⟨by simp [openB, List.getElem?_eq_none (show ls.length ≤ k by omega)], rfl⟩
  obtain ⟨v, hv⟩ := mem_get h1
  have hlv := fst_map hvs hv
  obtain ⟨hn1, hn2, hsp, hall, hlen⟩ := hok
  obtain ⟨q1, q2, q3, q4, q5, q6⟩ := hall _ (List.mem_of_getElem? hlv)
  obtain ⟨x, hx⟩ := Int.eq_ofNat_of_zero_le q1
  obtain ⟨y, hy⟩ := Int.eq_ofNat_of_zero_le q2
  simp only [LV.abs] at hx hy q3 q4
  have hx' : x < 16 := by omega
  have hy' : y < 16 := by omega
  obtain ⟨b2, rfl⟩ := ha.resolve_left (by omega)
  repeat (first | refine D.endA ?_ | refine Q.dy rfl rfl rfl ?_ | refine Q.dp rfl rfl rfl ?_ | refine D.end_ ?_ | refine Q.endH ?_ | (refine D.e rfl rfl rfl ?_; (first | refine S.gskip1 rfl ?_ | refine S.gskip rfl ?_ | refine S.y (Y.gskipU rfl) ?_); refine opsS_nil ?_; refine N.tn ?_) | refine Q.dT rfl rfl rfl ?_ | refine Q.dF rfl rfl rfl ?_)
  first | refine D.y rfl rfl rfl (by kernel_rfl) (by apply K.load; exact Y.ldR rfl ((RdC.elem LV.cells_len RdC.ofS hv).at (j := 0) rfl)) ?_ | refine D.y rfl rfl rfl (by kernel_rfl) (Y.guard rfl (by apply K.load; exact Y.ldR rfl ((RdC.elem LV.cells_len RdC.ofS hv).at (j := 0) rfl))) ?_
  repeat (first | refine D.endA ?_ | refine Q.dy rfl rfl rfl ?_ | refine Q.dp rfl rfl rfl ?_ | refine D.end_ ?_ | refine Q.endH ?_ | (refine D.e rfl rfl rfl ?_; (first | refine S.gskip1 rfl ?_ | refine S.gskip rfl ?_ | refine S.y (Y.gskipU rfl) ?_); refine opsS_nil ?_; refine N.tn ?_) | refine Q.dT rfl rfl rfl ?_ | refine Q.dF rfl rfl rfl ?_)
  first | refine D.y rfl rfl rfl (by kernel_rfl) (by apply K.load; exact Y.ldR rfl ((RdC.elem LV.cells_len RdC.ofS hv).at (j := 1) rfl)) ?_ | refine D.y rfl rfl rfl (by kernel_rfl) (Y.guard rfl (by apply K.load; exact Y.ldR rfl ((RdC.elem LV.cells_len RdC.ofS hv).at (j := 1) rfl))) ?_
  rw [hx, hy]
  repeat (first | refine D.endA ?_ | refine Q.dy rfl rfl rfl ?_ | refine Q.dp rfl rfl rfl ?_ | refine D.end_ ?_ | refine Q.endH ?_ | (refine D.e rfl rfl rfl ?_; (first | refine S.gskip1 rfl ?_ | refine S.gskip rfl ?_ | refine S.y (Y.gskipU rfl) ?_); refine opsS_nil ?_; refine N.tn ?_) | refine Q.dT rfl rfl rfl ?_ | refine Q.dF rfl rfl rfl ?_)
  first | refine D.y rfl rfl rfl (by kernel_rfl) (by apply K.load; exact Y.ld rfl (sp_cell hsp hx' hy')) ?_ | refine D.y rfl rfl rfl (by kernel_rfl) (Y.guard rfl (by apply K.load; exact Y.ld rfl (sp_cell hsp hx' hy'))) ?_
  repeat (first | refine D.endA ?_ | refine Q.dy rfl rfl rfl ?_ | refine Q.dp rfl rfl rfl ?_ | refine D.end_ ?_ | refine Q.endH ?_ | (refine D.e rfl rfl rfl ?_; (first | refine S.gskip1 rfl ?_ | refine S.gskip rfl ?_ | refine S.y (Y.gskipU rfl) ?_); refine opsS_nil ?_; refine N.tn ?_) | refine Q.dT rfl rfl rfl ?_ | refine Q.dF rfl rfl rfl ?_)
  repeat (first | (refine GQ.y ?_; refine Q.y ?_) | refine N.tn ?_ | refine N.tr ?_ | refine N.te ?_ | refine N.bn ?_ | refine N.br ?_ | refine N.be ?_ | refine N.bx rfl ?_ | refine swp_seq ?_ | refine swp_region ?_ | refine opsS_nil ?_ | refine swp_ret ?_ | refine swp_skip ?_ | refine swp_exit ?_ | refine swp_block ?_ | refine swp_cond_true rfl ?_ | refine swp_cond_false rfl ?_ | (refine GQ.g ?_; refine Q.gq ?_) | (refine GQ.s ?_; refine Q.st ?_))
  refine N.r1 (RV.tmp rfl RV.nil) (shut rfl) ⟨?_, rfl⟩
  simp [openB, hlv, LV.abs, hx, hy, spAt]
end Go.Proofs.Ytdjglpmnfckimaa
