/- NetOrders, walked. No condition. -/
import Derived.Test.YtdjglpmnfckimaaNetL
import Derived.Test.YtdjglpmnfckimaaSxW
set_option linter.unusedVariables false
set_option linter.unusedSimpArgs false
namespace Go.Proofs.Ytdjglpmnfckimaa
open Go Go.SX
attribute [local irreducible] swp opsS thenS blockS retS CallsS St Ent YieldS anyS drawS
/-- Letters between nodes that are there, whose bodies are these bytes, one each. -/
def ordOK (ls : List Let) (ws : List UInt8) : Prop := (∀ l ∈ ls, 0 ≤ l.1 ∧ 0 ≤ l.2.1 ∧ l.1 < 4 ∧ l.2.1 < 4 ∧ l.1 ≠ l.2.1) ∧ ls.map (·.2.2) = ws.map fun b => [b]
theorem ordOK.len {ls : List Let} {ws : List UInt8} (h : ordOK ls ws) : ls.length = ws.length := by have := congrArg List.length h.2; simpa using this
theorem ordOK.net {ls : List Let} {ws : List UInt8} (h : ordOK ls ws) (hl : ws.length ≤ 100000) : netOK 4 ls (List.replicate 256 false) :=
  ⟨by omega, by omega, rep256, fun l hm => by
    obtain ⟨h1, h2, h3, h4, h5⟩ := h.1 l hm
    have : l.2.2 ∈ ws.map fun b => [b] := by rw [← h.2]; exact List.mem_map_of_mem (f := fun l : Let => l.2.2) hm
    obtain ⟨b, _, e⟩ := List.mem_map.1 this
    exact ⟨h1, h2, h3, h4, h5, by rw [← e]; exact Nat.le_of_ble_eq_true rfl⟩, by rw [h.len]; exact hl⟩
theorem ordOK.snoc {ls : List Let} {ws : List UInt8} (h : ordOK ls ws) {v : LV} (hv : okL 4 v = true) {i : UInt8} (hb : v.body = [i]) : ordOK (ls ++ [v.abs]) (ws ++ [i]) := by
  simp only [okL, Bool.and_eq_true, decide_eq_true_eq] at hv
  refine ⟨fun l hl => ?_, by rw [List.map_append, List.map_append, h.2]; simp [hb]⟩
  rcases List.mem_append.1 hl with hl | hl
  · exact h.1 l hl
  · obtain rfl := List.mem_singleton.1 hl
    exact ⟨hv.1.1, hv.1.2.1, hv.1.2.2.1, hv.1.2.2.2.1, hv.1.2.2.2.2⟩
theorem map_erase {α β : Type} (f : α → β) : ∀ (l : List α) (i : Nat), (l.eraseIdx i).map f = (l.map f).eraseIdx i
  | [], _ => by simp
  | x :: l, 0 => by simp
  | x :: l, i + 1 => by simp [map_erase f l i]
theorem ordOK.erase {ls : List Let} {ws : List UInt8} (h : ordOK ls ws) (i : Nat) : ordOK (ls.eraseIdx i) (ws.eraseIdx i) :=
  ⟨fun l hl => h.1 l (List.mem_of_mem_eraseIdx hl), by rw [map_erase, map_erase, h.2]⟩
theorem ordOK.drop {ls : List Let} {ws : List UInt8} (h : ordOK ls ws) (i : Nat) : ordOK (ls.drop i) (ws.drop i) :=
  ⟨fun l hl => h.1 l (List.mem_of_mem_drop hl), by rw [List.map_drop, List.map_drop, h.2]⟩
theorem open_rep {ls : List Let} {i : Nat} {l : Let} (h : ls[i]? = some l) : openB ls (List.replicate 256 false) i = true := by
  unfold openB
  rw [show ((i : Int)).toNat = i from rfl, h]
  simp only [spAt, List.getElem?_replicate]
  split <;> simp
theorem take_drop_erase {α : Type} (l : List α) (k : Nat) : l.take k ++ l.drop (k + 1) = l.eraseIdx k := (List.eraseIdx_eq_take_drop_succ ..).symm
set_option maxHeartbeats 4000000 in
theorem NetOrders_spec (a : Option Addr) (c : Nat) (vs : List LV) (a1 : Option Addr) (c1 : Nat) (ps : List UInt8) (M : Nat → Option Obj) (L : List HP) (h : SlM M a vs.length 3 (vs.flatMap LV.cells)) (hm : vs.length ≤ 9223372036854775807)
    (h1 : SlM M a1 ps.length 1 (ps.map B)) (hm1 : ps.length ≤ 9223372036854775807) :
    CallsS Try.prog 4 [.slice a vs.length c, .slice a1 ps.length c1] (roM M :: L) (fun v L' => v = .bool true) := by
  refine CallsS.of_body Try.func4 rfl rfl rfl ?_
  repeat (first | (refine GQ.y ?_; refine Q.y ?_) | refine N.tn ?_ | refine N.tr ?_ | refine N.te ?_ | refine N.bn ?_ | refine N.br ?_ | refine N.be ?_ | refine N.bx rfl ?_ | refine swp_seq ?_ | refine swp_region ?_ | refine opsS_nil ?_ | refine swp_ret ?_ | refine swp_skip ?_ | refine swp_exit ?_ | refine swp_block ?_ | refine swp_cond_true rfl ?_ | refine swp_cond_false rfl ?_ | (refine GQ.g ?_; refine Q.gq ?_) | (refine GQ.s ?_; refine Q.st ?_))
  refine S.cr rfl (awake_spec _) ?_
  rintro _ _ ⟨rfl, rfl⟩
  repeat (first | (refine GQ.y ?_; refine Q.y ?_) | refine N.tn ?_ | refine N.tr ?_ | refine N.te ?_ | refine N.bn ?_ | refine N.br ?_ | refine N.be ?_ | refine N.bx rfl ?_ | refine swp_seq ?_ | refine swp_region ?_ | refine opsS_nil ?_ | refine swp_ret ?_ | refine swp_skip ?_ | refine swp_exit ?_ | refine swp_block ?_ | refine swp_cond_true rfl ?_ | refine swp_cond_false rfl ?_ | (refine GQ.g ?_; refine Q.gq ?_) | (refine GQ.s ?_; refine Q.st ?_) | (refine GQ.g ?_; refine Q.gd ?_) | refine Q.ct rfl ?_ | refine Q.cf rfl ?_)
  refine S.cr rfl (New_spec 4 _ (by decide) (by decide)) ?_
  rintro _ _ ⟨p, rfl, rfl⟩
  repeat (first | (refine GQ.y ?_; refine Q.y ?_) | refine N.tn ?_ | refine N.tr ?_ | refine N.te ?_ | refine N.bn ?_ | refine N.br ?_ | refine N.be ?_ | refine N.bx rfl ?_ | refine swp_seq ?_ | refine swp_region ?_ | refine opsS_nil ?_ | refine swp_ret ?_ | refine swp_skip ?_ | refine swp_exit ?_ | refine swp_block ?_ | refine swp_cond_true rfl ?_ | refine swp_cond_false rfl ?_ | (refine GQ.g ?_; refine Q.gq ?_) | (refine GQ.s ?_; refine Q.st ?_) | (refine GQ.g ?_; refine Q.gd ?_) | refine Q.ct rfl ?_ | refine Q.cf rfl ?_)
  refine swp_loop (σ := Nat × Option Addr × Nat × List UInt8 × List Let) (fun s => [(1, .slice a1 ps.length c1), (5, .pointer (some ⟨p, 0, none⟩)), (23, .slice a vs.length c), (24, .int .i64 vs.length), (7, .slice s.2.1 s.2.2.2.1.length s.2.2.1), (25, .int .i64 s.1)])
    (fun s => slO 5 1 s.2.1 s.2.2.2.1.length s.2.2.1 (s.2.2.2.1.map B) :: netH p 4 s.2.2.2.2 (List.replicate 256 false) :: [roM M])
    (fun s => s.1 ≤ vs.length ∧ s.2.2.2.1.length ≤ min s.1 30 ∧ ordOK s.2.2.2.2 s.2.2.2.1) (fun s => vs.length - s.1) (0, none, 0, [], []) ⟨rfl, rfl, rfl, rfl, rfl, rfl, trivial⟩ ?_ ⟨by omega, by simp, by simp [ordOK]⟩ ?_
  · refine Ent.trans ?_ slO_nil
    (try dsimp only); repeat (first | exact Ent.refl _ | exact Ent.nil | refine Ent.pick ?_ | refine Ent.nilS ?_ | refine Ent.nilM ?_ | refine Ent.drop ?_)
  rintro ⟨k, a7, c7, ws, ls⟩ ⟨hk, hws, hor⟩
  dsimp only at hk hws hor ⊢
  have hlen := hor.len
  repeat (first | (refine GQ.y ?_; refine Q.y ?_) | refine N.tn ?_ | refine N.tr ?_ | refine N.te ?_ | refine N.bn ?_ | refine N.br ?_ | refine N.be ?_ | refine N.bx rfl ?_ | refine swp_seq ?_ | refine swp_region ?_ | refine opsS_nil ?_ | refine swp_ret ?_ | refine swp_skip ?_ | refine swp_exit ?_ | refine swp_block ?_ | refine swp_cond_true rfl ?_ | refine swp_cond_false rfl ?_ | (refine GQ.g ?_; refine Q.gq ?_) | (refine GQ.s ?_; refine Q.st ?_))
  refine swp_cond rfl (fun hlt => ?_) (fun hge => ?_)
  · have hlt : k < vs.length := by simpa using hlt
    obtain ⟨v, hv⟩ := mem_get hlt
    obtain ⟨b2, o2, rfl, hr⟩ := h.cm LV.cells_len hv rfl
    by_cases hk30 : k < 30
    · repeat (first | (refine GQ.y ?_; refine Q.y ?_) | refine N.tn ?_ | refine N.tr ?_ | refine N.te ?_ | refine N.bn ?_ | refine N.br ?_ | refine N.be ?_ | refine N.bx rfl ?_ | refine swp_seq ?_ | refine swp_region ?_ | refine opsS_nil ?_ | refine swp_ret ?_ | refine swp_skip ?_ | refine swp_exit ?_ | refine swp_block ?_ | refine swp_cond_true rfl ?_ | refine swp_cond_false rfl ?_ | (refine GQ.g ?_; refine Q.gq ?_) | (refine GQ.s ?_; refine Q.st ?_) | (refine GQ.g ?_; refine Q.gd ?_) | refine Q.ct rfl ?_ | refine Q.cf rfl ?_ | (refine GQ.a ?_; refine Q.al (fun b1 => ?_)))
      obtain ⟨hbk, hbt⟩ := byteK k (by omega)
      refine S.y (Y.cvi rfl) ?_
      rw [hbk]
      repeat (first | (refine GQ.y ?_; refine Q.y ?_) | refine N.tn ?_ | refine N.tr ?_ | refine N.te ?_ | refine N.bn ?_ | refine N.br ?_ | refine N.be ?_ | refine N.bx rfl ?_ | refine swp_seq ?_ | refine swp_region ?_ | refine opsS_nil ?_ | refine swp_ret ?_ | refine swp_skip ?_ | refine swp_exit ?_ | refine swp_block ?_ | refine swp_cond_true rfl ?_ | refine swp_cond_false rfl ?_ | (refine GQ.g ?_; refine Q.gq ?_) | (refine GQ.s ?_; refine Q.st ?_) | (refine GQ.g ?_; refine Q.gd ?_) | refine Q.ct rfl ?_ | refine Q.cf rfl ?_ | (refine GQ.a ?_; refine Q.al (fun b1 => ?_)))
      rename_i b0 bB
      have hone : (([⟨v.fr, v.to, some ⟨bB, 0, none⟩, 1, [UInt8.ofNat k]⟩] : List LV).filter (okL 4)).length ≤ 1 := List.length_filter_le _ _
      refine S.cn p rfl (Post_spec p 4 _ _ _ 1 [⟨v.fr, v.to, some ⟨bB, 0, none⟩, 1, [UInt8.ofNat k]⟩] _ ⟨rfl, .inr ⟨_, 0, rfl, RdC.row⟩⟩ ?_ (Nat.le_of_ble_eq_true rfl) (by omega)) ?_
      · intro w hw
        obtain rfl := List.mem_singleton.1 hw
        exact ⟨⟨rfl, .inr ⟨_, 0, rfl, RdC.row⟩⟩, Nat.le_of_ble_eq_true rfl⟩
      rintro _ _ ⟨rfl, rfl⟩
      cases hok : okL 4 ⟨v.fr, v.to, some ⟨bB, 0, none⟩, 1, [UInt8.ofNat k]⟩ with
      | true =>
        have e1 : (([⟨v.fr, v.to, some ⟨bB, 0, none⟩, 1, [UInt8.ofNat k]⟩] : List LV).filter (okL 4)) = [⟨v.fr, v.to, some ⟨bB, 0, none⟩, 1, [UInt8.ofNat k]⟩] := by simp [hok]
        rw [e1]
        simp only [List.length_cons, List.length_nil]
        repeat (first | (refine GQ.y ?_; refine Q.y ?_) | refine N.tn ?_ | refine N.tr ?_ | refine N.te ?_ | refine N.bn ?_ | refine N.br ?_ | refine N.be ?_ | refine N.bx rfl ?_ | refine swp_seq ?_ | refine swp_region ?_ | refine opsS_nil ?_ | refine swp_ret ?_ | refine swp_skip ?_ | refine swp_exit ?_ | refine swp_block ?_ | refine swp_cond_true rfl ?_ | refine swp_cond_false rfl ?_ | (refine GQ.g ?_; refine Q.gq ?_) | (refine GQ.s ?_; refine Q.st ?_) | (refine GQ.g ?_; refine Q.gd ?_) | refine Q.ct rfl ?_ | refine Q.cf rfl ?_ | (refine GQ.a ?_; refine Q.al (fun b1 => ?_)))
        refine S.y (Y.cvi rfl) ?_
        rw [hbk]
        repeat (first | (refine GQ.y ?_; refine Q.y ?_) | refine N.tn ?_ | refine N.tr ?_ | refine N.te ?_ | refine N.bn ?_ | refine N.br ?_ | refine N.be ?_ | refine N.bx rfl ?_ | refine swp_seq ?_ | refine swp_region ?_ | refine opsS_nil ?_ | refine swp_ret ?_ | refine swp_skip ?_ | refine swp_exit ?_ | refine swp_block ?_ | refine swp_cond_true rfl ?_ | refine swp_cond_false rfl ?_ | (refine GQ.g ?_; refine Q.gq ?_) | (refine GQ.s ?_; refine Q.st ?_) | (refine GQ.g ?_; refine Q.gd ?_) | refine Q.ct rfl ?_ | refine Q.cf rfl ?_ | (refine GQ.a ?_; refine Q.al (fun b1 => ?_)))
        refine S.app rfl rfl (SrcS.sl RdC.row (by rfl) (by rfl)) (by rfl) (by omega) (by omega) (fun a5 c5 => ?_)
        repeat (first | (refine GQ.y ?_; refine Q.y ?_) | refine N.tn ?_ | refine N.tr ?_ | refine N.te ?_ | refine N.bn ?_ | refine N.br ?_ | refine N.be ?_ | refine N.bx rfl ?_ | refine swp_seq ?_ | refine swp_region ?_ | refine opsS_nil ?_ | refine swp_ret ?_ | refine swp_skip ?_ | refine swp_exit ?_ | refine swp_block ?_ | refine swp_cond_true rfl ?_ | refine swp_cond_false rfl ?_ | (refine GQ.g ?_; refine Q.gq ?_) | (refine GQ.s ?_; refine Q.st ?_) | (refine GQ.g ?_; refine Q.gd ?_) | refine Q.ct rfl ?_ | refine Q.cf rfl ?_ | (refine GQ.a ?_; refine Q.al (fun b1 => ?_)))
        refine ⟨(k + 1, a5, c5, ws ++ [UInt8.ofNat k], _), ⟨rfl, rfl, rfl, rfl, congrArg some (by simp), congrArg some (congrArg (Value.int .i64) (by simp)), trivial⟩, ?_, ⟨by dsimp only; omega, by simp only [len_snoc]; omega, hor.snoc hok rfl⟩, by dsimp only; omega⟩
        simp only [len_snoc, List.map_append, List.map_cons, List.map_nil]
        repeat (first | exact Ent.refl _ | exact Ent.nil | refine Ent.pick ?_ | refine Ent.nilS ?_ | refine Ent.nilM ?_ | refine Ent.drop ?_)
      | false =>
        have e1 : (([⟨v.fr, v.to, some ⟨bB, 0, none⟩, 1, [UInt8.ofNat k]⟩] : List LV).filter (okL 4)) = [] := by simp [hok]
        rw [e1]
        simp only [List.length_nil, List.map_nil, List.append_nil]
        repeat (first | (refine GQ.y ?_; refine Q.y ?_) | refine N.tn ?_ | refine N.tr ?_ | refine N.te ?_ | refine N.bn ?_ | refine N.br ?_ | refine N.be ?_ | refine N.bx rfl ?_ | refine swp_seq ?_ | refine swp_region ?_ | refine opsS_nil ?_ | refine swp_ret ?_ | refine swp_skip ?_ | refine swp_exit ?_ | refine swp_block ?_ | refine swp_cond_true rfl ?_ | refine swp_cond_false rfl ?_ | (refine GQ.g ?_; refine Q.gq ?_) | (refine GQ.s ?_; refine Q.st ?_) | (refine GQ.g ?_; refine Q.gd ?_) | refine Q.ct rfl ?_ | refine Q.cf rfl ?_ | (refine GQ.a ?_; refine Q.al (fun b1 => ?_)))
        refine ⟨(k + 1, a7, c7, ws, ls), ⟨rfl, rfl, rfl, rfl, rfl, congrArg some (congrArg (Value.int .i64) (by simp)), trivial⟩, ?_, ⟨by dsimp only; omega, by dsimp only; omega, hor⟩, by dsimp only; omega⟩
        (try dsimp only); repeat (first | exact Ent.refl _ | exact Ent.nil | refine Ent.pick ?_ | refine Ent.nilS ?_ | refine Ent.nilM ?_ | refine Ent.drop ?_)
    · repeat (first | (refine GQ.y ?_; refine Q.y ?_) | refine N.tn ?_ | refine N.tr ?_ | refine N.te ?_ | refine N.bn ?_ | refine N.br ?_ | refine N.be ?_ | refine N.bx rfl ?_ | refine swp_seq ?_ | refine swp_region ?_ | refine opsS_nil ?_ | refine swp_ret ?_ | refine swp_skip ?_ | refine swp_exit ?_ | refine swp_block ?_ | refine swp_cond_true rfl ?_ | refine swp_cond_false rfl ?_ | (refine GQ.g ?_; refine Q.gq ?_) | (refine GQ.s ?_; refine Q.st ?_) | (refine GQ.g ?_; refine Q.gd ?_) | refine Q.ct rfl ?_ | refine Q.cf rfl ?_ | (refine GQ.a ?_; refine Q.al (fun b1 => ?_)))
      refine ⟨(k + 1, a7, c7, ws, ls), ⟨rfl, rfl, rfl, rfl, rfl, congrArg some (congrArg (Value.int .i64) (by simp)), trivial⟩, ?_, ⟨by dsimp only; omega, by dsimp only; omega, hor⟩, by dsimp only; omega⟩
      (try dsimp only); repeat (first | exact Ent.refl _ | exact Ent.nil | refine Ent.pick ?_ | refine Ent.nilS ?_ | refine Ent.nilM ?_ | refine Ent.drop ?_)
  clear hge
  repeat (first | (refine GQ.y ?_; refine Q.y ?_) | refine N.tn ?_ | refine N.tr ?_ | refine N.te ?_ | refine N.bn ?_ | refine N.br ?_ | refine N.be ?_ | refine N.bx rfl ?_ | refine swp_seq ?_ | refine swp_region ?_ | refine opsS_nil ?_ | refine swp_ret ?_ | refine swp_skip ?_ | refine swp_exit ?_ | refine swp_block ?_ | refine swp_cond_true rfl ?_ | refine swp_cond_false rfl ?_ | (refine GQ.g ?_; refine Q.gq ?_) | (refine GQ.s ?_; refine Q.st ?_) | (refine GQ.g ?_; refine Q.gd ?_) | refine Q.ct rfl ?_ | refine Q.cf rfl ?_ | (refine GQ.a ?_; refine Q.al (fun b1 => ?_)))
  refine swp_cutB (σ := Option Addr × Nat × List UInt8 × List Let) (fun s => [(5, .pointer (some ⟨p, 0, none⟩)), (7, .slice s.1 s.2.2.1.length s.2.1)])
    (fun s => slO 5 1 s.1 s.2.2.1.length s.2.1 (s.2.2.1.map B) :: netH p 4 s.2.2.2 (List.replicate 256 false) :: [roM M])
    (fun s => s.2.2.1.length ≤ 30 ∧ ordOK s.2.2.2 s.2.2.1) ?_ ?_
  refine swp_loop (σ := Nat × Option Addr × Nat × List UInt8 × List Let) (fun s => [(5, .pointer (some ⟨p, 0, none⟩)), (52, .slice a1 ps.length c1), (53, .int .i64 ps.length), (7, .slice s.2.1 s.2.2.2.1.length s.2.2.1), (54, .int .i64 s.1)])
    (fun s => slO 5 1 s.2.1 s.2.2.2.1.length s.2.2.1 (s.2.2.2.1.map B) :: netH p 4 s.2.2.2.2 (List.replicate 256 false) :: [roM M])
    (fun s => s.1 ≤ ps.length ∧ s.2.2.2.1.length ≤ 30 ∧ ordOK s.2.2.2.2 s.2.2.2.1) (fun s => ps.length - s.1) (0, a7, c7, ws, ls) ⟨rfl, rfl, rfl, rfl, rfl, trivial⟩ (by (try dsimp only); repeat (first | exact Ent.refl _ | exact Ent.nil | refine Ent.pick ?_ | refine Ent.nilS ?_ | refine Ent.nilM ?_ | refine Ent.drop ?_)) ⟨by omega, by dsimp only; omega, hor⟩ ?_
  clear hk hws hor hlen
  rintro ⟨j, a7, c7, ws, ls⟩ ⟨hj, hws, hor⟩
  dsimp only at hj hws hor ⊢
  have hlen := hor.len
  repeat (first | (refine GQ.y ?_; refine Q.y ?_) | refine N.tn ?_ | refine N.tr ?_ | refine N.te ?_ | refine N.bn ?_ | refine N.br ?_ | refine N.be ?_ | refine N.bx rfl ?_ | refine swp_seq ?_ | refine swp_region ?_ | refine opsS_nil ?_ | refine swp_ret ?_ | refine swp_skip ?_ | refine swp_exit ?_ | refine swp_block ?_ | refine swp_cond_true rfl ?_ | refine swp_cond_false rfl ?_ | (refine GQ.g ?_; refine Q.gq ?_) | (refine GQ.s ?_; refine Q.st ?_))
  refine swp_cond rfl (fun hlt => ?_) (fun hge => ?_)
  · have hlt : j < ps.length := by simpa using hlt
    obtain ⟨w, hw⟩ := mem_get hlt
    obtain ⟨b3, o3, rfl, hr⟩ := h1.cm1 hw rfl
    by_cases hj20 : j < 20
    · repeat (first | (refine GQ.y ?_; refine Q.y ?_) | refine N.tn ?_ | refine N.tr ?_ | refine N.te ?_ | refine N.bn ?_ | refine N.br ?_ | refine N.be ?_ | refine N.bx rfl ?_ | refine swp_seq ?_ | refine swp_region ?_ | refine opsS_nil ?_ | refine swp_ret ?_ | refine swp_skip ?_ | refine swp_exit ?_ | refine swp_block ?_ | refine swp_cond_true rfl ?_ | refine swp_cond_false rfl ?_ | (refine GQ.g ?_; refine Q.gq ?_) | (refine GQ.s ?_; refine Q.st ?_) | (refine GQ.g ?_; refine Q.gd ?_) | refine Q.ct rfl ?_ | refine Q.cf rfl ?_ | (refine GQ.a ?_; refine Q.al (fun b1 => ?_)))
      refine S.cn p rfl (Len_spec _ _ _ _ _) ?_
      rintro _ _ ⟨rfl, rfl⟩
      by_cases hc0 : ls.length = 0
      · repeat (first | (refine GQ.y ?_; refine Q.y ?_) | refine N.tn ?_ | refine N.tr ?_ | refine N.te ?_ | refine N.bn ?_ | refine N.br ?_ | refine N.be ?_ | refine N.bx rfl ?_ | refine swp_seq ?_ | refine swp_region ?_ | refine opsS_nil ?_ | refine swp_ret ?_ | refine swp_skip ?_ | refine swp_exit ?_ | refine swp_block ?_ | refine swp_cond_true rfl ?_ | refine swp_cond_false rfl ?_ | (refine GQ.g ?_; refine Q.gq ?_) | (refine GQ.s ?_; refine Q.st ?_) | (refine GQ.g ?_; refine Q.gd ?_) | refine Q.ct rfl ?_ | refine Q.cf rfl ?_ | (refine GQ.a ?_; refine Q.al (fun b1 => ?_)))
        exact ⟨(a7, c7, ws, ls), ⟨rfl, rfl, trivial⟩, by (try dsimp only); repeat (first | exact Ent.refl _ | exact Ent.nil | refine Ent.pick ?_ | refine Ent.nilS ?_ | refine Ent.nilM ?_ | refine Ent.drop ?_), hws, hor⟩
      · repeat (first | (refine GQ.y ?_; refine Q.y ?_) | refine N.tn ?_ | refine N.tr ?_ | refine N.te ?_ | refine N.bn ?_ | refine N.br ?_ | refine N.be ?_ | refine N.bx rfl ?_ | refine swp_seq ?_ | refine swp_region ?_ | refine opsS_nil ?_ | refine swp_ret ?_ | refine swp_skip ?_ | refine swp_exit ?_ | refine swp_block ?_ | refine swp_cond_true rfl ?_ | refine swp_cond_false rfl ?_ | (refine GQ.g ?_; refine Q.gq ?_) | (refine GQ.s ?_; refine Q.st ?_) | (refine GQ.g ?_; refine Q.gd ?_) | refine Q.ct rfl ?_ | refine Q.cf rfl ?_ | (refine GQ.a ?_; refine Q.al (fun b1 => ?_)))
        refine S.y (Y.cvi rfl) ?_
        repeat (first | (refine GQ.y ?_; refine Q.y ?_) | refine N.tn ?_ | refine N.tr ?_ | refine N.te ?_ | refine N.bn ?_ | refine N.br ?_ | refine N.be ?_ | refine N.bx rfl ?_ | refine swp_seq ?_ | refine swp_region ?_ | refine opsS_nil ?_ | refine swp_ret ?_ | refine swp_skip ?_ | refine swp_exit ?_ | refine swp_block ?_ | refine swp_cond_true rfl ?_ | refine swp_cond_false rfl ?_ | (refine GQ.g ?_; refine Q.gq ?_) | (refine GQ.s ?_; refine Q.st ?_) | (refine GQ.g ?_; refine Q.gd ?_) | refine Q.ct rfl ?_ | refine Q.cf rfl ?_ | (refine GQ.a ?_; refine Q.al (fun b1 => ?_)))
        refine S.cn p rfl (Len_spec _ _ _ _ _) ?_
        rintro _ _ ⟨rfl, rfl⟩
        have hwl : w.toNat < 256 := w.toNat_lt
        rw [wrap_i64 (by omega) (by omega)]
        refine S.y (Y.rem rfl rfl (by omega)) ?_
        have hrem : (Int.tmod (w.toNat : Int) (ls.length : Int)) = ((w.toNat % ls.length : Nat) : Int) := Int.ofNat_tmod ..
        rw [hrem]
        have hlt2 : w.toNat % ls.length < ls.length := Nat.mod_lt _ (by omega)
        generalize w.toNat % ls.length = i at hlt2
        repeat (first | (refine GQ.y ?_; refine Q.y ?_) | refine N.tn ?_ | refine N.tr ?_ | refine N.te ?_ | refine N.bn ?_ | refine N.br ?_ | refine N.be ?_ | refine N.bx rfl ?_ | refine swp_seq ?_ | refine swp_region ?_ | refine opsS_nil ?_ | refine swp_ret ?_ | refine swp_skip ?_ | refine swp_exit ?_ | refine swp_block ?_ | refine swp_cond_true rfl ?_ | refine swp_cond_false rfl ?_ | (refine GQ.g ?_; refine Q.gq ?_) | (refine GQ.s ?_; refine Q.st ?_) | (refine GQ.g ?_; refine Q.gd ?_) | refine Q.ct rfl ?_ | refine Q.cf rfl ?_ | (refine GQ.a ?_; refine Q.al (fun b1 => ?_)))
        refine S.cn p rfl (Drop_ok _ _ _ _ i _ (hor.net (by omega)) hlt2) ?_
        rintro _ _ ⟨rfl, rfl⟩
        refine opsS_addr a7 fun ha7 => opsS_cap a7 fun hcap => ?_
        obtain ⟨b7, rfl⟩ := ha7.resolve_left (by omega)
        repeat (first | (refine GQ.y ?_; refine Q.y ?_) | refine N.tn ?_ | refine N.tr ?_ | refine N.te ?_ | refine N.bn ?_ | refine N.br ?_ | refine N.be ?_ | refine N.bx rfl ?_ | refine swp_seq ?_ | refine swp_region ?_ | refine opsS_nil ?_ | refine swp_ret ?_ | refine swp_skip ?_ | refine swp_exit ?_ | refine swp_block ?_ | refine swp_cond_true rfl ?_ | refine swp_cond_false rfl ?_ | (refine GQ.g ?_; refine Q.gq ?_) | (refine GQ.s ?_; refine Q.st ?_) | (refine GQ.g ?_; refine Q.gd ?_) | refine Q.ct rfl ?_ | refine Q.cf rfl ?_ | (refine GQ.a ?_; refine Q.al (fun b1 => ?_)))
        refine Q.dgo [] [0, 4, 9] [] [1, 2, 3, 5, 6, 7, 8, 0, 4, 9, 10] ?_
        repeat (first | refine D.endA ?_ | refine Q.dy rfl rfl rfl ?_ | refine Q.dp rfl rfl rfl ?_ | refine D.end_ ?_ | refine Q.endH ?_ | (refine D.e rfl rfl rfl ?_; (first | refine S.gskip1 rfl ?_ | refine S.gskip rfl ?_ | refine S.y (Y.gskipU rfl) ?_); refine opsS_nil ?_; refine N.tn ?_) | refine Q.dT rfl rfl rfl ?_ | refine Q.dF rfl rfl rfl ?_)
        refine D.yp rfl rfl rfl (Y.slT (h := i) rfl rfl rfl (by omega)) ?_
        repeat (first | refine D.endA ?_ | refine Q.dy rfl rfl rfl ?_ | refine Q.dp rfl rfl rfl ?_ | refine D.end_ ?_ | refine Q.endH ?_ | (refine D.e rfl rfl rfl ?_; (first | refine S.gskip1 rfl ?_ | refine S.gskip rfl ?_ | refine S.y (Y.gskipU rfl) ?_); refine opsS_nil ?_; refine N.tn ?_) | refine Q.dT rfl rfl rfl ?_ | refine Q.dF rfl rfl rfl ?_)
        refine D.yp rfl rfl rfl (Y.slF (l := i + 1) rfl rfl (by simp) (by omega)) ?_
        refine D.e rfl rfl rfl ?_
        refine S.bs rfl rfl rfl rfl rfl (fun b => ?_)
        refine opsS_ent (slO_fold (sz := 1) (m := 0) rfl) ?_
        repeat (first | (refine GQ.y ?_; refine Q.y ?_) | refine N.tn ?_ | refine N.tr ?_ | refine N.te ?_ | refine N.bn ?_ | refine N.br ?_ | refine N.be ?_ | refine N.bx rfl ?_ | refine swp_seq ?_ | refine swp_region ?_ | refine opsS_nil ?_ | refine swp_ret ?_ | refine swp_skip ?_ | refine swp_exit ?_ | refine swp_block ?_ | refine swp_cond_true rfl ?_ | refine swp_cond_false rfl ?_ | (refine GQ.g ?_; refine Q.gq ?_) | (refine GQ.s ?_; refine Q.st ?_))
        refine D.e rfl rfl rfl ?_
        refine S.app0 rfl rfl rfl (SrcS.rd ((RdS.ofS (by simp) (.inr ⟨b7, rfl⟩)).take (k := i) (by omega)) ?_) (by rfl) (by omega) (by omega) (fun a5 c5 => ?_)
        · rw [B_take]; exact B_one _
        repeat (first | (refine GQ.y ?_; refine Q.y ?_) | refine N.tn ?_ | refine N.tr ?_ | refine N.te ?_ | refine N.bn ?_ | refine N.br ?_ | refine N.be ?_ | refine N.bx rfl ?_ | refine swp_seq ?_ | refine swp_region ?_ | refine opsS_nil ?_ | refine swp_ret ?_ | refine swp_skip ?_ | refine swp_exit ?_ | refine swp_block ?_ | refine swp_cond_true rfl ?_ | refine swp_cond_false rfl ?_ | (refine GQ.g ?_; refine Q.gq ?_) | (refine GQ.s ?_; refine Q.st ?_))
        refine D.e rfl rfl rfl ?_
        refine S.app rfl rfl (SrcS.rd (RdS.from RdC.ofS (by simp) (by omega) hcap) ?_) (by rfl) (by omega) (by omega) (fun a6 c6 => ?_)
        · rw [Nat.mul_one, ← List.map_drop]; exact B_one _
        repeat (first | (refine GQ.y ?_; refine Q.y ?_) | refine N.tn ?_ | refine N.tr ?_ | refine N.te ?_ | refine N.bn ?_ | refine N.br ?_ | refine N.be ?_ | refine N.bx rfl ?_ | refine swp_seq ?_ | refine swp_region ?_ | refine opsS_nil ?_ | refine swp_ret ?_ | refine swp_skip ?_ | refine swp_exit ?_ | refine swp_block ?_ | refine swp_cond_true rfl ?_ | refine swp_cond_false rfl ?_ | (refine GQ.g ?_; refine Q.gq ?_) | (refine GQ.s ?_; refine Q.st ?_))
        repeat (first | refine D.endA ?_ | refine Q.dy rfl rfl rfl ?_ | refine Q.dp rfl rfl rfl ?_ | refine D.end_ ?_ | refine Q.endH ?_ | (refine D.e rfl rfl rfl ?_; (first | refine S.gskip1 rfl ?_ | refine S.gskip rfl ?_ | refine S.y (Y.gskipU rfl) ?_); refine opsS_nil ?_; refine N.tn ?_) | refine Q.dT rfl rfl rfl ?_ | refine Q.dF rfl rfl rfl ?_)
        repeat (first | (refine GQ.y ?_; refine Q.y ?_) | refine N.tn ?_ | refine N.tr ?_ | refine N.te ?_ | refine N.bn ?_ | refine N.br ?_ | refine N.be ?_ | refine N.bx rfl ?_ | refine swp_seq ?_ | refine swp_region ?_ | refine opsS_nil ?_ | refine swp_ret ?_ | refine swp_skip ?_ | refine swp_exit ?_ | refine swp_block ?_ | refine swp_cond_true rfl ?_ | refine swp_cond_false rfl ?_ | (refine GQ.g ?_; refine Q.gq ?_) | (refine GQ.s ?_; refine Q.st ?_) | (refine GQ.g ?_; refine Q.gd ?_) | refine Q.ct rfl ?_ | refine Q.cf rfl ?_ | (refine GQ.a ?_; refine Q.al (fun b1 => ?_)))
        have hel := List.length_eraseIdx_of_lt (l := ws) (i := i) (by omega)
        refine ⟨(j + 1, a6, c6, ws.eraseIdx i, ls.eraseIdx i), ⟨rfl, rfl, rfl, congrArg some ?_, congrArg some (congrArg (Value.int .i64) (by simp)), trivial⟩, ?_, ⟨by dsimp only; omega, by dsimp only; omega, hor.erase i⟩, by dsimp only; omega⟩
        · dsimp only; rw [hel]; congr 1; omega
        · dsimp only
          rw [B_take, Nat.mul_one, ← List.map_drop, ← List.map_append, take_drop_erase, hel, show i + (ws.length - (i + 1)) = ws.length - 1 by omega]
          repeat (first | exact Ent.refl _ | exact Ent.nil | refine Ent.pick ?_ | refine Ent.nilS ?_ | refine Ent.nilM ?_ | refine Ent.drop ?_)
    · repeat (first | (refine GQ.y ?_; refine Q.y ?_) | refine N.tn ?_ | refine N.tr ?_ | refine N.te ?_ | refine N.bn ?_ | refine N.br ?_ | refine N.be ?_ | refine N.bx rfl ?_ | refine swp_seq ?_ | refine swp_region ?_ | refine opsS_nil ?_ | refine swp_ret ?_ | refine swp_skip ?_ | refine swp_exit ?_ | refine swp_block ?_ | refine swp_cond_true rfl ?_ | refine swp_cond_false rfl ?_ | (refine GQ.g ?_; refine Q.gq ?_) | (refine GQ.s ?_; refine Q.st ?_) | (refine GQ.g ?_; refine Q.gd ?_) | refine Q.ct rfl ?_ | refine Q.cf rfl ?_ | (refine GQ.a ?_; refine Q.al (fun b1 => ?_)))
      exact ⟨(a7, c7, ws, ls), ⟨rfl, rfl, trivial⟩, by (try dsimp only); repeat (first | exact Ent.refl _ | exact Ent.nil | refine Ent.pick ?_ | refine Ent.nilS ?_ | refine Ent.nilM ?_ | refine Ent.drop ?_), hws, hor⟩
  · repeat (first | (refine GQ.y ?_; refine Q.y ?_) | refine N.tn ?_ | refine N.tr ?_ | refine N.te ?_ | refine N.bn ?_ | refine N.br ?_ | refine N.be ?_ | refine N.bx rfl ?_ | refine swp_seq ?_ | refine swp_region ?_ | refine opsS_nil ?_ | refine swp_ret ?_ | refine swp_skip ?_ | refine swp_exit ?_ | refine swp_block ?_ | refine swp_cond_true rfl ?_ | refine swp_cond_false rfl ?_ | (refine GQ.g ?_; refine Q.gq ?_) | (refine GQ.s ?_; refine Q.st ?_) | (refine GQ.g ?_; refine Q.gd ?_) | refine Q.ct rfl ?_ | refine Q.cf rfl ?_ | (refine GQ.a ?_; refine Q.al (fun b1 => ?_)))
    exact ⟨(a7, c7, ws, ls), ⟨rfl, rfl, trivial⟩, by (try dsimp only); repeat (first | exact Ent.refl _ | exact Ent.nil | refine Ent.pick ?_ | refine Ent.nilS ?_ | refine Ent.nilM ?_ | refine Ent.drop ?_), hws, hor⟩
  clear hk hws hor hlen
  rintro ⟨a7, c7, ws, ls⟩ ⟨hws, hor⟩
  dsimp only at hws hor ⊢
  have hlen := hor.len
  refine swp_addr a7 fun ha7 => ?_
  repeat (first | (refine GQ.y ?_; refine Q.y ?_) | refine N.tn ?_ | refine N.tr ?_ | refine N.te ?_ | refine N.bn ?_ | refine N.br ?_ | refine N.be ?_ | refine N.bx rfl ?_ | refine swp_seq ?_ | refine swp_region ?_ | refine opsS_nil ?_ | refine swp_ret ?_ | refine swp_skip ?_ | refine swp_exit ?_ | refine swp_block ?_ | refine swp_cond_true rfl ?_ | refine swp_cond_false rfl ?_ | (refine GQ.g ?_; refine Q.gq ?_) | (refine GQ.s ?_; refine Q.st ?_) | (refine GQ.g ?_; refine Q.gd ?_) | refine Q.ct rfl ?_ | refine Q.cf rfl ?_ | (refine GQ.a ?_; refine Q.al (fun b1 => ?_)))
  refine swp_loop (σ := Nat) (fun j => [(5, .pointer (some ⟨p, 0, none⟩)), (85, .slice a7 ws.length c7), (86, .int .i64 ws.length), (87, .int .i64 j)])
    (fun j => slO 5 1 a7 ws.length c7 (ws.map B) :: netH p 4 (ls.drop j) (List.replicate 256 false) :: [roM M])
    (fun j => j ≤ ws.length) (fun j => ws.length - j) 0 ⟨rfl, rfl, rfl, rfl, trivial⟩ (Ent.refl _) (by omega) ?_
  intro j hj
  repeat (first | (refine GQ.y ?_; refine Q.y ?_) | refine N.tn ?_ | refine N.tr ?_ | refine N.te ?_ | refine N.bn ?_ | refine N.br ?_ | refine N.be ?_ | refine N.bx rfl ?_ | refine swp_seq ?_ | refine swp_region ?_ | refine opsS_nil ?_ | refine swp_ret ?_ | refine swp_skip ?_ | refine swp_exit ?_ | refine swp_block ?_ | refine swp_cond_true rfl ?_ | refine swp_cond_false rfl ?_ | (refine GQ.g ?_; refine Q.gq ?_) | (refine GQ.s ?_; refine Q.st ?_))
  refine swp_cond rfl (fun hlt => ?_) (fun hge => ?_)
  · have hlt : j < ws.length := by simpa using hlt
    obtain ⟨w, hw⟩ := mem_get hlt
    obtain ⟨b7, rfl⟩ := ha7.resolve_left (by omega)
    have hr : RdC _ b7 (0 + j * 1) [B w] := (RdC.ofS (L := slO 5 1 (some ⟨b7, 0, none⟩) ws.length c7 (ws.map B) :: netH p 4 (ls.drop j) (List.replicate 256 false) :: [roM M])).at (by simp [hw])
    obtain ⟨l, hl⟩ := mem_get (l := ls) (k := j) (by omega)
    have hl0 : (ls.drop j)[0]? = some l := by rw [List.getElem?_drop]; exact hl
    have hbody : l.2.2 = [w] := by
      have := congrArg (·[j]?) hor.2
      simpa [hl, hw] using this
    obtain ⟨lf, lt, lb⟩ := l
    dsimp only at hbody
    subst hbody
    repeat (first | (refine GQ.y ?_; refine Q.y ?_) | refine N.tn ?_ | refine N.tr ?_ | refine N.te ?_ | refine N.bn ?_ | refine N.br ?_ | refine N.be ?_ | refine N.bx rfl ?_ | refine swp_seq ?_ | refine swp_region ?_ | refine opsS_nil ?_ | refine swp_ret ?_ | refine swp_skip ?_ | refine swp_exit ?_ | refine swp_block ?_ | refine swp_cond_true rfl ?_ | refine swp_cond_false rfl ?_ | (refine GQ.g ?_; refine Q.gq ?_) | (refine GQ.s ?_; refine Q.st ?_) | (refine GQ.g ?_; refine Q.gd ?_) | refine Q.ct rfl ?_ | refine Q.cf rfl ?_ | (refine GQ.a ?_; refine Q.al (fun b1 => ?_)))
    refine S.cn p rfl (Take_eq _ _ _ _ 0 lf lt [w] (ls.drop (j + 1)) _ ((hor.drop j).net (by rw [List.length_drop]; omega)) hl0 (open_rep hl0) (by rw [show (0 : Nat) = 0 from rfl, List.eraseIdx_zero, List.tail_drop])) ?_
    rintro _ _ ⟨a5, c5, rfl, rfl⟩
    refine opsS_addr a5 fun ha5 => ?_
    obtain ⟨b5, rfl⟩ := ha5.resolve_left (by exact Nat.one_ne_zero)
    repeat (first | (refine GQ.y ?_; refine Q.y ?_) | refine N.tn ?_ | refine N.tr ?_ | refine N.te ?_ | refine N.bn ?_ | refine N.br ?_ | refine N.be ?_ | refine N.bx rfl ?_ | refine swp_seq ?_ | refine swp_region ?_ | refine opsS_nil ?_ | refine swp_ret ?_ | refine swp_skip ?_ | refine swp_exit ?_ | refine swp_block ?_ | refine swp_cond_true rfl ?_ | refine swp_cond_false rfl ?_ | (refine GQ.g ?_; refine Q.gq ?_) | (refine GQ.s ?_; refine Q.st ?_) | (refine GQ.g ?_; refine Q.gd ?_) | refine Q.ct rfl ?_ | refine Q.cf rfl ?_ | (refine GQ.a ?_; refine Q.al (fun b1 => ?_)))
    try refine S.y (Y.ia (k := 0) rfl rfl rfl (by exact Nat.zero_lt_one)) ?_
    refine S.y (Y.ldR (v := B w) rfl (RdC.ofS.at (j := 0) rfl)) ?_
    repeat (first | (refine GQ.y ?_; refine Q.y ?_) | refine N.tn ?_ | refine N.tr ?_ | refine N.te ?_ | refine N.bn ?_ | refine N.br ?_ | refine N.be ?_ | refine N.bx rfl ?_ | refine swp_seq ?_ | refine swp_region ?_ | refine opsS_nil ?_ | refine swp_ret ?_ | refine swp_skip ?_ | refine swp_exit ?_ | refine swp_block ?_ | refine swp_cond_true rfl ?_ | refine swp_cond_false rfl ?_ | (refine GQ.g ?_; refine Q.gq ?_) | (refine GQ.s ?_; refine Q.st ?_) | (refine GQ.g ?_; refine Q.gd ?_) | refine Q.ct rfl ?_ | refine Q.cf rfl ?_ | (refine GQ.a ?_; refine Q.al (fun b1 => ?_)))
    refine ⟨j + 1, ⟨rfl, rfl, rfl, congrArg some (congrArg (Value.int .i64) (by simp)), trivial⟩, ?_, by omega, by omega⟩
    (try dsimp only); repeat (first | exact Ent.refl _ | exact Ent.nil | refine Ent.pick ?_ | refine Ent.nilS ?_ | refine Ent.nilM ?_ | refine Ent.drop ?_)
  · have hj2 : j = ws.length := by have : ¬ j < ws.length := by simpa using hge
                                   omega
    subst hj2
    repeat (first | (refine GQ.y ?_; refine Q.y ?_) | refine N.tn ?_ | refine N.tr ?_ | refine N.te ?_ | refine N.bn ?_ | refine N.br ?_ | refine N.be ?_ | refine N.bx rfl ?_ | refine swp_seq ?_ | refine swp_region ?_ | refine opsS_nil ?_ | refine swp_ret ?_ | refine swp_skip ?_ | refine swp_exit ?_ | refine swp_block ?_ | refine swp_cond_true rfl ?_ | refine swp_cond_false rfl ?_ | (refine GQ.g ?_; refine Q.gq ?_) | (refine GQ.s ?_; refine Q.st ?_) | (refine GQ.g ?_; refine Q.gd ?_) | refine Q.ct rfl ?_ | refine Q.cf rfl ?_ | (refine GQ.a ?_; refine Q.al (fun b1 => ?_)))
    refine S.cn p rfl (Len_spec _ _ _ _ _) ?_
    rintro _ _ ⟨rfl, rfl⟩
    repeat (first | (refine GQ.y ?_; refine Q.y ?_) | refine N.tn ?_ | refine N.tr ?_ | refine N.te ?_ | refine N.bn ?_ | refine N.br ?_ | refine N.be ?_ | refine N.bx rfl ?_ | refine swp_seq ?_ | refine swp_region ?_ | refine opsS_nil ?_ | refine swp_ret ?_ | refine swp_skip ?_ | refine swp_exit ?_ | refine swp_block ?_ | refine swp_cond_true rfl ?_ | refine swp_cond_false rfl ?_ | (refine GQ.g ?_; refine Q.gq ?_) | (refine GQ.s ?_; refine Q.st ?_) | (refine GQ.g ?_; refine Q.gd ?_) | refine Q.ct rfl ?_ | refine Q.cf rfl ?_ | (refine GQ.a ?_; refine Q.al (fun b1 => ?_)))
    refine N.r1 (RV.tmp rfl RV.nil) (Ent.refl _) ?_
    simp [hlen]
end Go.Proofs.Ytdjglpmnfckimaa
