/- NetOnce, walked. No condition. -/
import Derived.Test.YtdjglpmnfckimaaNetJ
import Derived.Test.YtdjglpmnfckimaaSxN
set_option linter.unusedVariables false
set_option linter.unusedSimpArgs false
namespace Go.Proofs.Ytdjglpmnfckimaa
open Go Go.SX
attribute [local irreducible] swp opsS thenS blockS retS CallsS St Ent YieldS anyS drawS
/-- Letters whose bodies are one byte each, no two alike. -/
def onceOK (ls : List Let) (k : Nat) : Prop := (∀ l ∈ ls, (0 ≤ l.1 ∧ 0 ≤ l.2.1 ∧ l.1 < 4 ∧ l.2.1 < 4 ∧ l.1 ≠ l.2.1) ∧ ∃ i : UInt8, i.toNat < k ∧ l.2.2 = [i]) ∧ (ls.map (·.2.2)).Nodup
theorem onceOK.net {ls : List Let} {k : Nat} (h : onceOK ls k) {sp : List Bool} (hs : sp.length = 256) (hl : ls.length ≤ 100000) : netOK 4 ls sp :=
  ⟨by omega, by omega, hs, fun l hl => by
    obtain ⟨⟨h1, h2, h3, h4, h5⟩, i, _, e⟩ := h.1 l hl
    exact ⟨h1, h2, h3, h4, h5, by rw [e]; exact Nat.le_of_ble_eq_true rfl⟩, hl⟩
theorem onceOK.snoc {ls : List Let} {k : Nat} (h : onceOK ls k) {v : LV} (hv : okL 4 v = true) {i : UInt8} (hi : i.toNat = k) (hb : v.body = [i]) : onceOK (ls ++ [v.abs]) (k + 1) := by
  simp only [okL, Bool.and_eq_true, decide_eq_true_eq] at hv
  refine ⟨fun l hl => ?_, ?_⟩
  · rcases List.mem_append.1 hl with hl | hl
    · obtain ⟨h1, j, h2, h3⟩ := h.1 l hl
      exact ⟨h1, j, by omega, h3⟩
    · obtain rfl := List.mem_singleton.1 hl
      exact ⟨⟨hv.1.1, hv.1.2.1, hv.1.2.2.1, hv.1.2.2.2.1, hv.1.2.2.2.2⟩, i, by omega, hb⟩
  · rw [List.map_append, List.nodup_append]
    refine ⟨h.2, by simp, fun x hx y hy => ?_⟩
    obtain ⟨l, hl, rfl⟩ := List.mem_map.1 hx
    simp at hy; subst hy
    obtain ⟨_, j, h2, h3⟩ := h.1 l hl
    rw [h3, hb]
    intro e
    simp at e; subst e; omega
theorem onceOK.up {ls : List Let} {k : Nat} (h : onceOK ls k) : onceOK ls (k + 1) := ⟨fun l hl => by
  obtain ⟨h1, j, h2, h3⟩ := h.1 l hl
  exact ⟨h1, j, by omega, h3⟩, h.2⟩
theorem onceOK.erase {ls : List Let} {k : Nat} (h : onceOK ls k) (i : Nat) : onceOK (ls.eraseIdx i) k := ⟨fun l hl => h.1 l (List.mem_of_mem_eraseIdx hl), List.Sublist.nodup ((List.eraseIdx_sublist _ _).map _) h.2⟩
theorem erase_not {ls : List Let} (h : (ls.map (·.2.2)).Nodup) {i : Nat} {l : Let} (hl : ls[i]? = some l) : ∀ x ∈ ls.eraseIdx i, x.2.2 ≠ l.2.2 := by
  intro x hx e
  have hi : i < ls.length := (List.getElem?_eq_some_iff.1 hl).1
  have e1 : ls = ls.take i ++ l :: ls.drop (i + 1) := by
    have := (List.getElem?_eq_some_iff.1 hl).2
    rw [← this, ← List.drop_eq_getElem_cons hi, List.take_append_drop]
  rw [List.eraseIdx_eq_take_drop_succ] at hx
  rw [e1, List.map_append, List.map_cons, List.nodup_append, List.nodup_cons] at h
  rcases List.mem_append.1 hx with h1 | h1
  · exact h.2.2 _ (List.mem_map_of_mem h1) _ (by simp) e
  · exact h.2.1.1 (e ▸ List.mem_map_of_mem h1)
theorem byteK (k : Nat) (h : k < 256) : Value.int .u8 (IntKind.u8.wrap (k : Int)) = B (UInt8.ofNat k) ∧ (UInt8.ofNat k).toNat = k := by
  have : (UInt8.ofNat k).toNat = k := by simp; omega
  rw [wrap_u8 (by omega) (by omega)]
  exact ⟨by simp only [B, this], this⟩
set_option maxHeartbeats 4000000 in
theorem NetOnce_spec (a : Option Addr) (c : Nat) (vs : List LV) (a1 : Option Addr) (c1 : Nat) (ps : List UInt8) (x y : Int) (M : Nat → Option Obj) (L : List HP) (h : SlM M a vs.length 3 (vs.flatMap LV.cells)) (hm : vs.length ≤ 9223372036854775807)
    (h1 : SlM M a1 ps.length 1 (ps.map B)) (hm1 : ps.length ≤ 9223372036854775807) :
    CallsS Try.prog 3 [.slice a vs.length c, .slice a1 ps.length c1, .int .i64 x, .int .i64 y] (roM M :: L) (fun v L' => v = .bool true) := by
  refine CallsS.of_body Try.func3 rfl rfl rfl ?_
  repeat (first | (refine GQ.y ?_; refine Q.y ?_) | refine N.tn ?_ | refine N.tr ?_ | refine N.te ?_ | refine N.bn ?_ | refine N.br ?_ | refine N.be ?_ | refine N.bx rfl ?_ | refine swp_seq ?_ | refine swp_region ?_ | refine opsS_nil ?_ | refine swp_ret ?_ | refine swp_skip ?_ | refine swp_exit ?_ | refine swp_block ?_ | refine swp_cond_true rfl ?_ | refine swp_cond_false rfl ?_ | (refine GQ.g ?_; refine Q.gq ?_) | (refine GQ.s ?_; refine Q.st ?_))
  refine S.cr rfl (awake_spec _) ?_
  rintro _ _ ⟨rfl, rfl⟩
  repeat (first | (refine GQ.y ?_; refine Q.y ?_) | refine N.tn ?_ | refine N.tr ?_ | refine N.te ?_ | refine N.bn ?_ | refine N.br ?_ | refine N.be ?_ | refine N.bx rfl ?_ | refine swp_seq ?_ | refine swp_region ?_ | refine opsS_nil ?_ | refine swp_ret ?_ | refine swp_skip ?_ | refine swp_exit ?_ | refine swp_block ?_ | refine swp_cond_true rfl ?_ | refine swp_cond_false rfl ?_ | (refine GQ.g ?_; refine Q.gq ?_) | (refine GQ.s ?_; refine Q.st ?_) | (refine GQ.g ?_; refine Q.gd ?_) | refine Q.ct rfl ?_ | refine Q.cf rfl ?_)
  refine S.cr rfl (New_spec 4 _ (by decide) (by decide)) ?_
  rintro _ _ ⟨p, rfl, rfl⟩
  repeat (first | (refine GQ.y ?_; refine Q.y ?_) | refine N.tn ?_ | refine N.tr ?_ | refine N.te ?_ | refine N.bn ?_ | refine N.br ?_ | refine N.be ?_ | refine N.bx rfl ?_ | refine swp_seq ?_ | refine swp_region ?_ | refine opsS_nil ?_ | refine swp_ret ?_ | refine swp_skip ?_ | refine swp_exit ?_ | refine swp_block ?_ | refine swp_cond_true rfl ?_ | refine swp_cond_false rfl ?_ | (refine GQ.g ?_; refine Q.gq ?_) | (refine GQ.s ?_; refine Q.st ?_) | (refine GQ.g ?_; refine Q.gd ?_) | refine Q.ct rfl ?_ | refine Q.cf rfl ?_)
  have hok0 : netOK 4 [] (List.replicate 256 false) := netOK_of (by decide) (by decide) rep256 (by decide) (by decide)
  refine S.cn p rfl (Split_any _ _ _ _ _ _ _ _ hok0) ?_
  rintro _ _ ⟨e, sp, rfl, he, hspl, hat, rfl⟩
  repeat (first | (refine GQ.y ?_; refine Q.y ?_) | refine N.tn ?_ | refine N.tr ?_ | refine N.te ?_ | refine N.bn ?_ | refine N.br ?_ | refine N.be ?_ | refine N.bx rfl ?_ | refine swp_seq ?_ | refine swp_region ?_ | refine opsS_nil ?_ | refine swp_ret ?_ | refine swp_skip ?_ | refine swp_exit ?_ | refine swp_block ?_ | refine swp_cond_true rfl ?_ | refine swp_cond_false rfl ?_ | (refine GQ.g ?_; refine Q.gq ?_) | (refine GQ.s ?_; refine Q.st ?_) | (refine GQ.g ?_; refine Q.gd ?_) | refine Q.ct rfl ?_ | refine Q.cf rfl ?_)
  refine swp_loop (σ := Nat × List Let) (fun s => [(1, .slice a1 ps.length c1), (2, .int .i64 x), (3, .int .i64 y), (9, .pointer (some ⟨p, 0, none⟩)), (29, .slice a vs.length c), (30, .int .i64 vs.length), (11, .int .i64 s.2.length), (31, .int .i64 s.1)])
    (fun s => netH p 4 s.2 sp :: [roM M])
    (fun s => s.1 ≤ vs.length ∧ s.2.length ≤ min s.1 20 ∧ onceOK s.2 (min s.1 20)) (fun s => vs.length - s.1) (0, []) ⟨rfl, rfl, rfl, rfl, rfl, rfl, rfl, rfl, trivial⟩ (by (try dsimp only); repeat (first | exact Ent.refl _ | exact Ent.nil | refine Ent.pick ?_ | refine Ent.nilS ?_ | refine Ent.nilM ?_ | refine Ent.drop ?_)) ⟨by omega, by simp, by simp [onceOK]⟩ ?_
  · rintro ⟨k, ls⟩ ⟨hk, hls, hon⟩
    dsimp only at hk hls hon ⊢
    repeat (first | (refine GQ.y ?_; refine Q.y ?_) | refine N.tn ?_ | refine N.tr ?_ | refine N.te ?_ | refine N.bn ?_ | refine N.br ?_ | refine N.be ?_ | refine N.bx rfl ?_ | refine swp_seq ?_ | refine swp_region ?_ | refine opsS_nil ?_ | refine swp_ret ?_ | refine swp_skip ?_ | refine swp_exit ?_ | refine swp_block ?_ | refine swp_cond_true rfl ?_ | refine swp_cond_false rfl ?_ | (refine GQ.g ?_; refine Q.gq ?_) | (refine GQ.s ?_; refine Q.st ?_))
    refine swp_cond rfl (fun hlt => ?_) (fun hge => ?_)
    · have hlt : k < vs.length := by simpa using hlt
      obtain ⟨v, hv⟩ := mem_get hlt
      obtain ⟨b2, o2, rfl, hr⟩ := h.cm LV.cells_len hv rfl
      by_cases hk20 : k < 20
      · repeat (first | (refine GQ.y ?_; refine Q.y ?_) | refine N.tn ?_ | refine N.tr ?_ | refine N.te ?_ | refine N.bn ?_ | refine N.br ?_ | refine N.be ?_ | refine N.bx rfl ?_ | refine swp_seq ?_ | refine swp_region ?_ | refine opsS_nil ?_ | refine swp_ret ?_ | refine swp_skip ?_ | refine swp_exit ?_ | refine swp_block ?_ | refine swp_cond_true rfl ?_ | refine swp_cond_false rfl ?_ | (refine GQ.g ?_; refine Q.gq ?_) | (refine GQ.s ?_; refine Q.st ?_) | (refine GQ.g ?_; refine Q.gd ?_) | refine Q.ct rfl ?_ | refine Q.cf rfl ?_ | (refine GQ.a ?_; refine Q.al (fun b1 => ?_)))
        obtain ⟨hbk, hbt⟩ := byteK k (by omega)
        refine S.y (Y.cvi rfl) ?_
        rw [hbk]
        repeat (first | (refine GQ.y ?_; refine Q.y ?_) | refine N.tn ?_ | refine N.tr ?_ | refine N.te ?_ | refine N.bn ?_ | refine N.br ?_ | refine N.be ?_ | refine N.bx rfl ?_ | refine swp_seq ?_ | refine swp_region ?_ | refine opsS_nil ?_ | refine swp_ret ?_ | refine swp_skip ?_ | refine swp_exit ?_ | refine swp_block ?_ | refine swp_cond_true rfl ?_ | refine swp_cond_false rfl ?_ | (refine GQ.g ?_; refine Q.gq ?_) | (refine GQ.s ?_; refine Q.st ?_) | (refine GQ.g ?_; refine Q.gd ?_) | refine Q.ct rfl ?_ | refine Q.cf rfl ?_ | (refine GQ.a ?_; refine Q.al (fun b1 => ?_)))
        rename_i b0 bB
        have hone : (([⟨v.fr, v.to, some ⟨bB, 0, none⟩, 1, [UInt8.ofNat k]⟩] : List LV).filter (okL 4)).length ≤ 1 := List.length_filter_le _ _
        refine S.cn p rfl (Post_spec p 4 _ _ _ 1 [⟨v.fr, v.to, some ⟨bB, 0, none⟩, 1, [UInt8.ofNat k]⟩] _ ⟨rfl, .inr ⟨_, 0, rfl, RdC.row⟩⟩ ?_ (Nat.le_of_ble_eq_true rfl) (by omega)) ?_
        · intro w hw
          obtain rfl := List.mem_singleton.1 hw
          exact ⟨⟨rfl, .inr ⟨_, 0, rfl, RdC.row⟩⟩, Nat.le_of_ble_eq_true rfl⟩
        rintro _ _ ⟨rfl, rfl⟩
        repeat (first | (refine GQ.y ?_; refine Q.y ?_) | refine N.tn ?_ | refine N.tr ?_ | refine N.te ?_ | refine N.bn ?_ | refine N.br ?_ | refine N.be ?_ | refine N.bx rfl ?_ | refine swp_seq ?_ | refine swp_region ?_ | refine opsS_nil ?_ | refine swp_ret ?_ | refine swp_skip ?_ | refine swp_exit ?_ | refine swp_block ?_ | refine swp_cond_true rfl ?_ | refine swp_cond_false rfl ?_ | (refine GQ.g ?_; refine Q.gq ?_) | (refine GQ.s ?_; refine Q.st ?_) | (refine GQ.g ?_; refine Q.gd ?_) | refine Q.ct rfl ?_ | refine Q.cf rfl ?_ | (refine GQ.a ?_; refine Q.al (fun b1 => ?_)))
        have hmin : min (k + 1) 20 = min k 20 + 1 := by omega
        have hmk : min k 20 = k := by omega
        refine ⟨(k + 1, ls ++ (([⟨v.fr, v.to, some ⟨bB, 0, none⟩, 1, [UInt8.ofNat k]⟩] : List LV).filter (okL 4)).map LV.abs), ⟨rfl, rfl, rfl, rfl, rfl, rfl, congrArg some (by simp), congrArg some (congrArg (Value.int .i64) (by simp)), trivial⟩, ?_, ⟨by dsimp only; omega, ?_, ?_⟩, by dsimp only; omega⟩
        · (try dsimp only); repeat (first | exact Ent.refl _ | exact Ent.nil | refine Ent.pick ?_ | refine Ent.nilS ?_ | refine Ent.nilM ?_ | refine Ent.drop ?_)
        · simp only [List.length_append, List.length_map]; omega
        · rw [hmin]
          cases hok : okL 4 ⟨v.fr, v.to, some ⟨bB, 0, none⟩, 1, [UInt8.ofNat k]⟩ with
          | true =>
            have e1 : (([⟨v.fr, v.to, some ⟨bB, 0, none⟩, 1, [UInt8.ofNat k]⟩] : List LV).filter (okL 4)) = [⟨v.fr, v.to, some ⟨bB, 0, none⟩, 1, [UInt8.ofNat k]⟩] := by simp [hok]
            rw [e1]
            exact hon.snoc hok (by rw [hbt, hmk]) rfl
          | false =>
            have e1 : (([⟨v.fr, v.to, some ⟨bB, 0, none⟩, 1, [UInt8.ofNat k]⟩] : List LV).filter (okL 4)) = [] := by simp [hok]
            rw [e1]; simpa using hon.up
      · repeat (first | (refine GQ.y ?_; refine Q.y ?_) | refine N.tn ?_ | refine N.tr ?_ | refine N.te ?_ | refine N.bn ?_ | refine N.br ?_ | refine N.be ?_ | refine N.bx rfl ?_ | refine swp_seq ?_ | refine swp_region ?_ | refine opsS_nil ?_ | refine swp_ret ?_ | refine swp_skip ?_ | refine swp_exit ?_ | refine swp_block ?_ | refine swp_cond_true rfl ?_ | refine swp_cond_false rfl ?_ | (refine GQ.g ?_; refine Q.gq ?_) | (refine GQ.s ?_; refine Q.st ?_) | (refine GQ.g ?_; refine Q.gd ?_) | refine Q.ct rfl ?_ | refine Q.cf rfl ?_ | (refine GQ.a ?_; refine Q.al (fun b1 => ?_)))
        refine ⟨(k + 1, ls), ⟨rfl, rfl, rfl, rfl, rfl, rfl, rfl, congrArg some (congrArg (Value.int .i64) (by simp)), trivial⟩, ?_, ⟨by dsimp only; omega, by dsimp only; omega, ?_⟩, by dsimp only; omega⟩
        · (try dsimp only); repeat (first | exact Ent.refl _ | exact Ent.nil | refine Ent.pick ?_ | refine Ent.nilS ?_ | refine Ent.nilM ?_ | refine Ent.drop ?_)
        · dsimp only; rw [Nat.min_eq_right (by omega)] at hon ⊢; exact hon
    · have hls20 : ls.length ≤ 20 := by omega
      repeat (first | (refine GQ.y ?_; refine Q.y ?_) | refine N.tn ?_ | refine N.tr ?_ | refine N.te ?_ | refine N.bn ?_ | refine N.br ?_ | refine N.be ?_ | refine N.bx rfl ?_ | refine swp_seq ?_ | refine swp_region ?_ | refine opsS_nil ?_ | refine swp_ret ?_ | refine swp_skip ?_ | refine swp_exit ?_ | refine swp_block ?_ | refine swp_cond_true rfl ?_ | refine swp_cond_false rfl ?_ | (refine GQ.g ?_; refine Q.gq ?_) | (refine GQ.s ?_; refine Q.st ?_) | (refine GQ.g ?_; refine Q.gd ?_) | refine Q.ct rfl ?_ | refine Q.cf rfl ?_ | (refine GQ.a ?_; refine Q.al (fun b1 => ?_)))
      refine S.mkm (iK .u8) (iK .i64) (fun mb => ?_)
      repeat (first | (refine GQ.y ?_; refine Q.y ?_) | refine N.tn ?_ | refine N.tr ?_ | refine N.te ?_ | refine N.bn ?_ | refine N.br ?_ | refine N.be ?_ | refine N.bx rfl ?_ | refine swp_seq ?_ | refine swp_region ?_ | refine opsS_nil ?_ | refine swp_ret ?_ | refine swp_skip ?_ | refine swp_exit ?_ | refine swp_block ?_ | refine swp_cond_true rfl ?_ | refine swp_cond_false rfl ?_ | (refine GQ.g ?_; refine Q.gq ?_) | (refine GQ.s ?_; refine Q.st ?_) | (refine GQ.g ?_; refine Q.gd ?_) | refine Q.ct rfl ?_ | refine Q.cf rfl ?_ | (refine GQ.a ?_; refine Q.al (fun b1 => ?_)))
      refine swp_loop (σ := Nat × List Let × List (Int × Int)) (fun s => [(2, .int .i64 x), (3, .int .i64 y), (9, .pointer (some ⟨p, 0, none⟩)), (11, .int .i64 ls.length), (14, .map (some mb)), (53, .slice a1 ps.length c1), (54, .int .i64 ps.length), (55, .int .i64 s.1)])
        (fun s => netH p 4 s.2.1 sp :: mpO (iK .u8) (iK .i64) mb s.2.2 :: [roM M])
        (fun s => s.1 ≤ ps.length ∧ s.2.2.length + s.2.1.length = ls.length ∧ onceOK s.2.1 20 ∧ ∀ q ∈ s.2.2, ∀ l ∈ s.2.1, ∀ i : UInt8, l.2.2 = [i] → q.1 ≠ i.toNat) (fun s => ps.length - s.1) (0, ls, []) ⟨rfl, rfl, rfl, rfl, rfl, rfl, rfl, rfl, trivial⟩ (by (try dsimp only); repeat (first | exact Ent.refl _ | exact Ent.nil | refine Ent.pick ?_ | refine Ent.nilS ?_ | refine Ent.nilM ?_ | refine Ent.drop ?_)) ⟨by omega, by simp, ?_, by simp⟩ ?_
      · exact ⟨fun l hl => by
          obtain ⟨h1, i, h2, h3⟩ := hon.1 l hl
          exact ⟨h1, i, by omega, h3⟩, hon.2⟩
      rintro ⟨j, cur, m⟩ ⟨hj, hlen, hcur, hdis⟩
      dsimp only at hj hlen hcur hdis ⊢
      have hcok : netOK 4 cur sp := hcur.net hspl (by omega)
      repeat (first | (refine GQ.y ?_; refine Q.y ?_) | refine N.tn ?_ | refine N.tr ?_ | refine N.te ?_ | refine N.bn ?_ | refine N.br ?_ | refine N.be ?_ | refine N.bx rfl ?_ | refine swp_seq ?_ | refine swp_region ?_ | refine opsS_nil ?_ | refine swp_ret ?_ | refine swp_skip ?_ | refine swp_exit ?_ | refine swp_block ?_ | refine swp_cond_true rfl ?_ | refine swp_cond_false rfl ?_ | (refine GQ.g ?_; refine Q.gq ?_) | (refine GQ.s ?_; refine Q.st ?_))
      refine swp_cond rfl (fun hlt => ?_) (fun hge => ?_)
      · have hlt : j < ps.length := by simpa using hlt
        obtain ⟨w, hw⟩ := mem_get hlt
        obtain ⟨b3, o3, rfl, hr⟩ := h1.cm1 hw rfl
        by_cases hj60 : j < 60
        · repeat (first | (refine GQ.y ?_; refine Q.y ?_) | refine N.tn ?_ | refine N.tr ?_ | refine N.te ?_ | refine N.bn ?_ | refine N.br ?_ | refine N.be ?_ | refine N.bx rfl ?_ | refine swp_seq ?_ | refine swp_region ?_ | refine opsS_nil ?_ | refine swp_ret ?_ | refine swp_skip ?_ | refine swp_exit ?_ | refine swp_block ?_ | refine swp_cond_true rfl ?_ | refine swp_cond_false rfl ?_ | (refine GQ.g ?_; refine Q.gq ?_) | (refine GQ.s ?_; refine Q.st ?_) | (refine GQ.g ?_; refine Q.gd ?_) | refine Q.ct rfl ?_ | refine Q.cf rfl ?_ | (refine GQ.a ?_; refine Q.al (fun b1 => ?_)))
          refine S.cn p rfl (Len_spec _ _ _ _ _) ?_
          rintro _ _ ⟨rfl, rfl⟩
          by_cases hc0 : cur.length = 0
          · repeat (first | (refine GQ.y ?_; refine Q.y ?_) | refine N.tn ?_ | refine N.tr ?_ | refine N.te ?_ | refine N.bn ?_ | refine N.br ?_ | refine N.be ?_ | refine N.bx rfl ?_ | refine swp_seq ?_ | refine swp_region ?_ | refine opsS_nil ?_ | refine swp_ret ?_ | refine swp_skip ?_ | refine swp_exit ?_ | refine swp_block ?_ | refine swp_cond_true rfl ?_ | refine swp_cond_false rfl ?_ | (refine GQ.g ?_; refine Q.gq ?_) | (refine GQ.s ?_; refine Q.st ?_) | (refine GQ.g ?_; refine Q.gd ?_) | refine Q.ct rfl ?_ | refine Q.cf rfl ?_ | (refine GQ.a ?_; refine Q.al (fun b1 => ?_)))
            refine S.cn p rfl (Len_spec _ _ _ _ _) ?_
            rintro _ _ ⟨rfl, rfl⟩
            repeat (first | (refine GQ.y ?_; refine Q.y ?_) | refine N.tn ?_ | refine N.tr ?_ | refine N.te ?_ | refine N.bn ?_ | refine N.br ?_ | refine N.be ?_ | refine N.bx rfl ?_ | refine swp_seq ?_ | refine swp_region ?_ | refine opsS_nil ?_ | refine swp_ret ?_ | refine swp_skip ?_ | refine swp_exit ?_ | refine swp_block ?_ | refine swp_cond_true rfl ?_ | refine swp_cond_false rfl ?_ | (refine GQ.g ?_; refine Q.gq ?_) | (refine GQ.s ?_; refine Q.st ?_) | (refine GQ.g ?_; refine Q.gd ?_) | refine Q.ct rfl ?_ | refine Q.cf rfl ?_ | (refine GQ.a ?_; refine Q.al (fun b1 => ?_)))
            refine N.r1 (RV.tmp rfl RV.nil) (Ent.refl _) ?_
            first | done | (simp; done) | (simp; omega)
          · repeat (first | (refine GQ.y ?_; refine Q.y ?_) | refine N.tn ?_ | refine N.tr ?_ | refine N.te ?_ | refine N.bn ?_ | refine N.br ?_ | refine N.be ?_ | refine N.bx rfl ?_ | refine swp_seq ?_ | refine swp_region ?_ | refine opsS_nil ?_ | refine swp_ret ?_ | refine swp_skip ?_ | refine swp_exit ?_ | refine swp_block ?_ | refine swp_cond_true rfl ?_ | refine swp_cond_false rfl ?_ | (refine GQ.g ?_; refine Q.gq ?_) | (refine GQ.s ?_; refine Q.st ?_) | (refine GQ.g ?_; refine Q.gd ?_) | refine Q.ct rfl ?_ | refine Q.cf rfl ?_ | (refine GQ.a ?_; refine Q.al (fun b1 => ?_)))
            refine S.y (Y.cvi rfl) ?_
            repeat (first | (refine GQ.y ?_; refine Q.y ?_) | refine N.tn ?_ | refine N.tr ?_ | refine N.te ?_ | refine N.bn ?_ | refine N.br ?_ | refine N.be ?_ | refine N.bx rfl ?_ | refine swp_seq ?_ | refine swp_region ?_ | refine opsS_nil ?_ | refine swp_ret ?_ | refine swp_skip ?_ | refine swp_exit ?_ | refine swp_block ?_ | refine swp_cond_true rfl ?_ | refine swp_cond_false rfl ?_ | (refine GQ.g ?_; refine Q.gq ?_) | (refine GQ.s ?_; refine Q.st ?_) | (refine GQ.g ?_; refine Q.gd ?_) | refine Q.ct rfl ?_ | refine Q.cf rfl ?_ | (refine GQ.a ?_; refine Q.al (fun b1 => ?_)))
            refine S.cn p rfl (Len_spec _ _ _ _ _) ?_
            rintro _ _ ⟨rfl, rfl⟩
            have hwl : w.toNat < 256 := w.toNat_lt
            rw [wrap_i64 (by omega) (by omega)]
            refine S.y (Y.rem rfl rfl (by omega)) ?_
            have hrem : (Int.tmod (w.toNat : Int) (cur.length : Int)) = ((w.toNat % cur.length : Nat) : Int) := Int.ofNat_tmod ..
            rw [hrem]
            have hlt2 : w.toNat % cur.length < cur.length := Nat.mod_lt _ (by omega)
            generalize w.toNat % cur.length = i at hlt2
            obtain ⟨l, hl⟩ := mem_get hlt2
            cases ho : openB cur sp i with
            | false =>
              refine S.cn p rfl (Take_state _ _ _ _ i _ hcok hlt2 ho) ?_
              rintro _ _ ⟨rfl, rfl⟩
              repeat (first | (refine GQ.y ?_; refine Q.y ?_) | refine N.tn ?_ | refine N.tr ?_ | refine N.te ?_ | refine N.bn ?_ | refine N.br ?_ | refine N.be ?_ | refine N.bx rfl ?_ | refine swp_seq ?_ | refine swp_region ?_ | refine opsS_nil ?_ | refine swp_ret ?_ | refine swp_skip ?_ | refine swp_exit ?_ | refine swp_block ?_ | refine swp_cond_true rfl ?_ | refine swp_cond_false rfl ?_ | (refine GQ.g ?_; refine Q.gq ?_) | (refine GQ.s ?_; refine Q.st ?_) | (refine GQ.g ?_; refine Q.gd ?_) | refine Q.ct rfl ?_ | refine Q.cf rfl ?_ | (refine GQ.a ?_; refine Q.al (fun b1 => ?_)))
              refine ⟨(j + 1, cur, m), ⟨rfl, rfl, rfl, rfl, rfl, rfl, rfl, congrArg some (congrArg (Value.int .i64) (by simp)), trivial⟩, ?_, ⟨by dsimp only; omega, hlen, hcur, hdis⟩, by dsimp only; omega⟩
              (try dsimp only); repeat (first | exact Ent.refl _ | exact Ent.nil | refine Ent.pick ?_ | refine Ent.nilS ?_ | refine Ent.nilM ?_ | refine Ent.drop ?_)
            | true =>
              obtain ⟨⟨q1, q2, q3, q4, q5⟩, bi, hbi, hbody⟩ := hcur.1 l (List.mem_of_getElem? hl)
              obtain ⟨lf, lt, lb⟩ := l
              dsimp only at q1 q2 q3 q4 q5 hbody
              subst hbody
              refine S.cn p rfl (Take_eq _ _ _ _ i lf lt [bi] _ _ hcok hl ho rfl) ?_
              rintro _ _ ⟨a5, c5, rfl, rfl⟩
              refine opsS_addr a5 fun ha5 => ?_
              obtain ⟨b5, rfl⟩ := ha5.resolve_left (by exact Nat.one_ne_zero)
              have hsp0 : spAt sp lf lt = false := by
                have : openB cur sp i = (decide (0 ≤ (i : Int)) && !spAt sp lf lt) := by
                  unfold openB
                  rw [show ((i : Int)).toNat = i from rfl, hl]
                rw [this] at ho
                simpa using ho
              have hno : ¬ (min lf lt = min x y ∧ max lf lt = max x y ∧ x ≠ y) := by
                rintro ⟨m1, m2, m3⟩
                have := hat lf lt q1 q2 (by omega) (by omega)
                rw [if_pos ⟨by omega, by omega⟩, hsp0] at this
                cases this
              by_cases h1' : min lf lt = min x y
              case' pos =>
                have h2' : ¬ max lf lt = max x y := by omega
              all_goals
                repeat (first | (refine GQ.y ?_; refine Q.y ?_) | refine N.tn ?_ | refine N.tr ?_ | refine N.te ?_ | refine N.bn ?_ | refine N.br ?_ | refine N.be ?_ | refine N.bx rfl ?_ | refine swp_seq ?_ | refine swp_region ?_ | refine opsS_nil ?_ | refine swp_ret ?_ | refine swp_skip ?_ | refine swp_exit ?_ | refine swp_block ?_ | refine swp_cond_true rfl ?_ | refine swp_cond_false rfl ?_ | (refine GQ.g ?_; refine Q.gq ?_) | (refine GQ.s ?_; refine Q.st ?_) | (refine GQ.g ?_; refine Q.gd ?_) | refine Q.ct rfl ?_ | refine Q.cf rfl ?_ | (refine GQ.a ?_; refine Q.al (fun b1 => ?_)))
                try refine S.y (Y.ia (k := 0) rfl rfl rfl (by exact Nat.zero_lt_one)) ?_
                refine S.y (Y.ldR (v := B bi) rfl (RdC.ofS.at (j := 0) rfl)) ?_
                have hlk : lkL m (bi.toNat : Int) = none := lkL_none fun u hu => hdis u hu _ (List.mem_of_getElem? hl) bi rfl
                refine S.y (Y.lk (q := (bi.toNat : Int)) (g := iK .u8) (r := iK .i64) (z := .int .i64 0) false rfl rfl (fun w => Try.zeroValue3 w)) ?_
                rw [hlk]
                repeat (first | (refine GQ.y ?_; refine Q.y ?_) | refine N.tn ?_ | refine N.tr ?_ | refine N.te ?_ | refine N.bn ?_ | refine N.br ?_ | refine N.be ?_ | refine N.bx rfl ?_ | refine swp_seq ?_ | refine swp_region ?_ | refine opsS_nil ?_ | refine swp_ret ?_ | refine swp_skip ?_ | refine swp_exit ?_ | refine swp_block ?_ | refine swp_cond_true rfl ?_ | refine swp_cond_false rfl ?_ | (refine GQ.g ?_; refine Q.gq ?_) | (refine GQ.s ?_; refine Q.st ?_) | (refine GQ.g ?_; refine Q.gd ?_) | refine Q.ct rfl ?_ | refine Q.cf rfl ?_ | (refine GQ.a ?_; refine Q.al (fun b1 => ?_)))
                refine S.mu (q := (bi.toNat : Int)) (u := 1) rfl rfl rfl ?_
                refine opsS_nil ?_
                first | refine N.tn ?_ | skip
                repeat (first | (refine GQ.y ?_; refine Q.y ?_) | refine N.tn ?_ | refine N.tr ?_ | refine N.te ?_ | refine N.bn ?_ | refine N.br ?_ | refine N.be ?_ | refine N.bx rfl ?_ | refine swp_seq ?_ | refine swp_region ?_ | refine opsS_nil ?_ | refine swp_ret ?_ | refine swp_skip ?_ | refine swp_exit ?_ | refine swp_block ?_ | refine swp_cond_true rfl ?_ | refine swp_cond_false rfl ?_ | (refine GQ.g ?_; refine Q.gq ?_) | (refine GQ.s ?_; refine Q.st ?_) | (refine GQ.g ?_; refine Q.gd ?_) | refine Q.ct rfl ?_ | refine Q.cf rfl ?_ | (refine GQ.a ?_; refine Q.al (fun b1 => ?_)))
                try refine S.y (Y.ia (k := 0) rfl rfl rfl (by exact Nat.zero_lt_one)) ?_
                refine S.y (Y.ldR (v := B bi) rfl (RdC.ofS.at (j := 0) rfl)) ?_
                have hput : putL m (bi.toNat : Int) (1 : Int) = m ++ [((bi.toNat : Int), (1 : Int))] := putL_none fun u hu => hdis u hu _ (List.mem_of_getElem? hl) bi rfl
                have hlk2 : lkL (m ++ [((bi.toNat : Int), (1 : Int))]) (bi.toNat : Int) = some 1 := lkL_mid fun u hu => hdis u hu _ (List.mem_of_getElem? hl) bi rfl
                rw [hput]
                refine S.y (Y.lk (q := (bi.toNat : Int)) (g := iK .u8) (r := iK .i64) (z := .int .i64 0) false rfl rfl (fun w => Try.zeroValue3 w)) ?_
                rw [hlk2]
                repeat (first | (refine GQ.y ?_; refine Q.y ?_) | refine N.tn ?_ | refine N.tr ?_ | refine N.te ?_ | refine N.bn ?_ | refine N.br ?_ | refine N.be ?_ | refine N.bx rfl ?_ | refine swp_seq ?_ | refine swp_region ?_ | refine opsS_nil ?_ | refine swp_ret ?_ | refine swp_skip ?_ | refine swp_exit ?_ | refine swp_block ?_ | refine swp_cond_true rfl ?_ | refine swp_cond_false rfl ?_ | (refine GQ.g ?_; refine Q.gq ?_) | (refine GQ.s ?_; refine Q.st ?_) | (refine GQ.g ?_; refine Q.gd ?_) | refine Q.ct rfl ?_ | refine Q.cf rfl ?_ | (refine GQ.a ?_; refine Q.al (fun b1 => ?_)))
                refine ⟨(j + 1, cur.eraseIdx i, m ++ [((bi.toNat : Int), (1 : Int))]), ⟨rfl, rfl, rfl, rfl, rfl, rfl, rfl, congrArg some (congrArg (Value.int .i64) (by simp)), trivial⟩, ?_, ⟨by dsimp only; omega, ?_, hcur.erase i, ?_⟩, by dsimp only; omega⟩
                · (try dsimp only); repeat (first | exact Ent.refl _ | exact Ent.nil | refine Ent.pick ?_ | refine Ent.nilS ?_ | refine Ent.nilM ?_ | refine Ent.drop ?_)
                · have := List.length_eraseIdx_of_lt (l := cur) (i := i) hlt2
                  simp only [len_snoc, this]; omega
                · intro u hu l2 hl2 i2 e2
                  rcases List.mem_append.1 hu with hu | hu
                  · exact hdis u hu l2 (List.mem_of_mem_eraseIdx hl2) i2 e2
                  · obtain rfl := List.mem_singleton.1 hu
                    have := erase_not hcur.2 hl l2 hl2
                    rw [e2] at this
                    intro e3
                    apply this
                    have e4 : bi.toNat = i2.toNat := Int.ofNat.inj e3
                    rw [UInt8.toNat_inj.1 e4]
        · repeat (first | (refine GQ.y ?_; refine Q.y ?_) | refine N.tn ?_ | refine N.tr ?_ | refine N.te ?_ | refine N.bn ?_ | refine N.br ?_ | refine N.be ?_ | refine N.bx rfl ?_ | refine swp_seq ?_ | refine swp_region ?_ | refine opsS_nil ?_ | refine swp_ret ?_ | refine swp_skip ?_ | refine swp_exit ?_ | refine swp_block ?_ | refine swp_cond_true rfl ?_ | refine swp_cond_false rfl ?_ | (refine GQ.g ?_; refine Q.gq ?_) | (refine GQ.s ?_; refine Q.st ?_) | (refine GQ.g ?_; refine Q.gd ?_) | refine Q.ct rfl ?_ | refine Q.cf rfl ?_ | (refine GQ.a ?_; refine Q.al (fun b1 => ?_)))
          refine S.cn p rfl (Len_spec _ _ _ _ _) ?_
          rintro _ _ ⟨rfl, rfl⟩
          repeat (first | (refine GQ.y ?_; refine Q.y ?_) | refine N.tn ?_ | refine N.tr ?_ | refine N.te ?_ | refine N.bn ?_ | refine N.br ?_ | refine N.be ?_ | refine N.bx rfl ?_ | refine swp_seq ?_ | refine swp_region ?_ | refine opsS_nil ?_ | refine swp_ret ?_ | refine swp_skip ?_ | refine swp_exit ?_ | refine swp_block ?_ | refine swp_cond_true rfl ?_ | refine swp_cond_false rfl ?_ | (refine GQ.g ?_; refine Q.gq ?_) | (refine GQ.s ?_; refine Q.st ?_) | (refine GQ.g ?_; refine Q.gd ?_) | refine Q.ct rfl ?_ | refine Q.cf rfl ?_ | (refine GQ.a ?_; refine Q.al (fun b1 => ?_)))
          refine N.r1 (RV.tmp rfl RV.nil) (Ent.refl _) ?_
          first | done | (simp; done) | (simp; omega)
      · repeat (first | (refine GQ.y ?_; refine Q.y ?_) | refine N.tn ?_ | refine N.tr ?_ | refine N.te ?_ | refine N.bn ?_ | refine N.br ?_ | refine N.be ?_ | refine N.bx rfl ?_ | refine swp_seq ?_ | refine swp_region ?_ | refine opsS_nil ?_ | refine swp_ret ?_ | refine swp_skip ?_ | refine swp_exit ?_ | refine swp_block ?_ | refine swp_cond_true rfl ?_ | refine swp_cond_false rfl ?_ | (refine GQ.g ?_; refine Q.gq ?_) | (refine GQ.s ?_; refine Q.st ?_) | (refine GQ.g ?_; refine Q.gd ?_) | refine Q.ct rfl ?_ | refine Q.cf rfl ?_ | (refine GQ.a ?_; refine Q.al (fun b1 => ?_)))
        refine S.cn p rfl (Len_spec _ _ _ _ _) ?_
        rintro _ _ ⟨rfl, rfl⟩
        repeat (first | (refine GQ.y ?_; refine Q.y ?_) | refine N.tn ?_ | refine N.tr ?_ | refine N.te ?_ | refine N.bn ?_ | refine N.br ?_ | refine N.be ?_ | refine N.bx rfl ?_ | refine swp_seq ?_ | refine swp_region ?_ | refine opsS_nil ?_ | refine swp_ret ?_ | refine swp_skip ?_ | refine swp_exit ?_ | refine swp_block ?_ | refine swp_cond_true rfl ?_ | refine swp_cond_false rfl ?_ | (refine GQ.g ?_; refine Q.gq ?_) | (refine GQ.s ?_; refine Q.st ?_) | (refine GQ.g ?_; refine Q.gd ?_) | refine Q.ct rfl ?_ | refine Q.cf rfl ?_ | (refine GQ.a ?_; refine Q.al (fun b1 => ?_)))
        refine N.r1 (RV.tmp rfl RV.nil) (Ent.refl _) ?_
        first | done | (simp; done) | (simp; omega)
end Go.Proofs.Ytdjglpmnfckimaa
