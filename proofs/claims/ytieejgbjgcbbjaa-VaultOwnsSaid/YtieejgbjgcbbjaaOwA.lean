/- VaultOwns: the law, walked. No condition. -/
import Derived.Test.YtieejgbjgcbbjaaAskF
set_option linter.unusedVariables false
set_option linter.unusedSimpArgs false
namespace Go.Proofs.Ytieejgbjgcbbjaa
open Go Go.SX
attribute [local irreducible] swp opsS thenS blockS retS CallsS St Ent YieldS anyS drawS
theorem vecs_out {o : OV} {us : List OV} {L : List HP} : Ent (vecsH (o :: us) :: L) (slO 21 1 o.a o.vec.length o.c (o.vec.map I32) :: vecsH us :: L) := by
  unfold vecsH
  exact bodV_out' (p := []) (by simp)
theorem drop_at {α : Type} {l : List α} {k : Nat} {x : α} (h : l[k]? = some x) : l.drop k = x :: l.drop (k + 1) := by
  obtain ⟨hlt, e⟩ := List.getElem?_eq_some_iff.1 h
  rw [List.drop_eq_getElem_cons hlt, e]
set_option maxHeartbeats 4000000 in
theorem VaultOwns_spec (a : Option Addr) (c : Nat) (xs : List DV) (by_ : Int) (M : Nat → Option Obj)
    (h : SlM M a xs.length 8 (xs.flatMap DV.cells)) (hx : ∀ o ∈ xs, DOK M o) (hn : xs.length ≤ 9223372036854775807) :
    CallsS Try.prog 8 [.slice a xs.length c, .int .i32 by_] [roM M] (fun v _ => v = .bool true) := by
  refine CallsS.of_body Try.func8 rfl rfl rfl ?_
  repeat (first | (refine GQ.y ?_; refine Q.y ?_) | refine Q.go ?_ | (refine GQ.g ?_; refine Q.gq ?_) | (refine GQ.s ?_; refine Q.st ?_) | (refine GQ.g ?_; refine Q.gd ?_) | refine Q.ct rfl ?_ | refine Q.cf rfl ?_ | (refine GQ.a ?_; refine Q.al (fun b1 => ?_)))
  refine S.cr rfl (awake_spec _) ?_
  rintro _ _ ⟨rfl, rfl⟩
  repeat (first | (refine GQ.y ?_; refine Q.y ?_) | refine Q.go ?_ | (refine GQ.g ?_; refine Q.gq ?_) | (refine GQ.s ?_; refine Q.st ?_) | (refine GQ.g ?_; refine Q.gd ?_) | refine Q.ct rfl ?_ | refine Q.cf rfl ?_ | (refine GQ.a ?_; refine Q.al (fun b1 => ?_)))
  refine S.cr rfl (New_spec 2 _ (by decide) (by decide)) ?_
  rintro _ _ ⟨v, rfl, rfl⟩
  repeat (first | (refine GQ.y ?_; refine Q.y ?_) | refine Q.go ?_ | (refine GQ.g ?_; refine Q.gq ?_) | (refine GQ.s ?_; refine Q.st ?_) | (refine GQ.g ?_; refine Q.gd ?_) | refine Q.ct rfl ?_ | refine Q.cf rfl ?_ | (refine GQ.a ?_; refine Q.al (fun b1 => ?_)))
  refine swp_cutB (σ := VS × (Nat → Option Obj)) (fun u => [(1, .int .i32 by_), (5, ptrV v), (7, ptrV b1)]) (fun u => vaultH v u.1 :: refH b1 u.1 :: roM u.2 :: []) (fun u => WFK u.1 30 ∧ leM M u.2) ?_ ?_
  · refine swp_loop (σ := Nat × VS × (Nat → Option Obj)) (fun u => [(1, .int .i32 by_), (5, ptrV v), (7, ptrV b1), (31, .slice a xs.length c), (32, .int .i64 xs.length), (33, .int .i64 u.1)]) (fun u => vaultH v u.2.1 :: refH b1 u.2.1 :: roM u.2.2 :: [])
      (fun u => u.1 ≤ xs.length ∧ WFK u.2.1 (min u.1 30) ∧ leM M u.2.2) (fun u => xs.length - u.1) (0, ⟨2, [], [], 0⟩, M) ⟨rfl, rfl, rfl, rfl, rfl, rfl, trivial⟩ ?_ ⟨by omega, ⟨WF0 2 (by decide) (by decide) _, by simp [keysOK], by simp [keysOK]⟩, leM.refl M⟩ ?_
    · dsimp only
      refine Ent.trans (Ent.perm (.swap _ _ _)) (Ent.cons ?_)
      refine Ent.trans (Ent.cons (Ent.nilM (Ent.refl _))) ?_
      exact ref_shut (p := b1) (st := ⟨2, [], [], 0⟩) (es := []) (is := []) (a := none) (a' := none) (c := 0) (c' := 0) ⟨by simp, by simp, by simp, by simp, by simp, by simp, ⟨rfl, .inl rfl⟩, ⟨rfl, .inl rfl⟩, by simp, by simp, by simp [keysOK], by simp [keysOK], by simp⟩
    rintro ⟨k, st, M1⟩ ⟨hk, hwf, hl1⟩
    dsimp only at hk hwf hl1 ⊢
    by_cases hlt : k < xs.length
    · obtain ⟨o, ho⟩ := mem_get hlt
      have hdo := (hx o (List.mem_of_getElem? ho)).mono hl1
      have hrs : RdS (vaultH v st :: refH b1 st :: roM M1 :: []) a xs.length 8 (xs.flatMap DV.cells) := (SlM.mono h hl1).rd
      obtain ⟨b, oo, hia, hr⟩ := RdS.elem (g := DV.cells) (fun _ => rfl) hrs ho rfl
      rw [hia]
      by_cases h30 : (k : Int) < 30
      · repeat (first | (refine GQ.y ?_; refine Q.y ?_) | refine Q.go ?_ | (refine GQ.g ?_; refine Q.gq ?_) | (refine GQ.s ?_; refine Q.st ?_) | (refine GQ.g ?_; refine Q.gd ?_) | refine Q.ct rfl ?_ | refine Q.cf rfl ?_ | (refine GQ.a ?_; refine Q.al (fun b1 => ?_)))
        rename_i bp
        refine opsS_ent (L' := vaultH v st :: refH bp st :: roM M1 :: [pt b1 (cl o.cells 39)]) (by repeat (first | exact Ent.refl _ | exact Ent.nil | refine Ent.pick ?_ | refine Ent.nilS ?_ | refine Ent.nilM ?_ | refine Ent.drop ?_)) ?_
        refine S.cr rfl (Do_spec v bp st _ o M1 _ hwf.wf (by omega) hdo.1 hdo.2.1 hdo.2.2.1 hdo.2.2.2.1) ?_
        rintro _ _ ⟨rfl, M2, hl2, rfl⟩
        have hwf2 := hwf.do_ o
        generalize doS st o = st2 at hwf2 ⊢
        repeat (first | (refine GQ.y ?_; refine Q.y ?_) | refine Q.go ?_ | (refine GQ.g ?_; refine Q.gq ?_) | (refine GQ.s ?_; refine Q.st ?_) | (refine GQ.g ?_; refine Q.gd ?_) | refine Q.ct rfl ?_ | refine Q.cf rfl ?_ | (refine GQ.a ?_; refine Q.al (fun b1 => ?_)))
        refine ⟨(k + 1, st2, M2), ⟨rfl, rfl, rfl, rfl, rfl, rfl, trivial⟩, by repeat (first | exact Ent.refl _ | exact Ent.nil | refine Ent.pick ?_ | refine Ent.nilS ?_ | refine Ent.nilM ?_ | refine Ent.drop ?_), ⟨by dsimp only; omega, hwf2.mono (by dsimp only; omega), hl1.trans hl2⟩, by dsimp only; omega⟩
      · repeat (first | (refine GQ.y ?_; refine Q.y ?_) | refine Q.go ?_ | (refine GQ.g ?_; refine Q.gq ?_) | (refine GQ.s ?_; refine Q.st ?_) | (refine GQ.g ?_; refine Q.gd ?_) | refine Q.ct rfl ?_ | refine Q.cf rfl ?_ | (refine GQ.a ?_; refine Q.al (fun b1 => ?_)))
        refine ⟨(k + 1, st, M1), ⟨rfl, rfl, rfl, rfl, rfl, rfl, trivial⟩, by repeat (first | exact Ent.refl _ | exact Ent.nil | refine Ent.pick ?_ | refine Ent.nilS ?_ | refine Ent.nilM ?_ | refine Ent.drop ?_), ⟨by dsimp only; omega, hwf.mono (by dsimp only; omega), hl1⟩, by dsimp only; omega⟩
    · have hke : k = xs.length := by omega
      subst hke
      repeat (first | (refine GQ.y ?_; refine Q.y ?_) | refine Q.go ?_ | (refine GQ.g ?_; refine Q.gq ?_) | (refine GQ.s ?_; refine Q.st ?_) | (refine GQ.g ?_; refine Q.gd ?_) | refine Q.ct rfl ?_ | refine Q.cf rfl ?_ | (refine GQ.a ?_; refine Q.al (fun b1 => ?_)))
      exact ⟨(st, M1), ⟨rfl, rfl, rfl, trivial⟩, Ent.refl _, hwf.mono (by omega), hl1⟩
  rintro ⟨st, M1⟩ ⟨hwf, hl1⟩
  dsimp only at hwf hl1 ⊢
  clear h hx hn a c xs
  repeat (first | (refine GQ.y ?_; refine Q.y ?_) | refine Q.go ?_ | (refine GQ.g ?_; refine Q.gq ?_) | (refine GQ.s ?_; refine Q.st ?_) | (refine GQ.g ?_; refine Q.gd ?_) | refine Q.ct rfl ?_ | refine Q.cf rfl ?_ | (refine GQ.a ?_; refine Q.al (fun b1 => ?_)))
  -- what Dump tells
  refine S.cv v rfl (DumpO_spec v st 30 _ hwf.wf (by omega)) ?_
  rintro _ _ ⟨a3, c3, es, rfl, hep, -, rfl⟩
  have hel : es.length ≤ 480 := by
    have h1 := hep.length_eq
    rw [List.length_map] at h1
    have := hwf.wf.cl; omega
  refine opsS_addr a3 (fun ha3 => ?_)
  repeat (first | (refine GQ.y ?_; refine Q.y ?_) | refine Q.go ?_ | (refine GQ.g ?_; refine Q.gq ?_) | (refine GQ.s ?_; refine Q.st ?_) | (refine GQ.g ?_; refine Q.gd ?_) | refine Q.ct rfl ?_ | refine Q.cf rfl ?_ | (refine GQ.a ?_; refine Q.al (fun b1 => ?_)))
  refine swp_cutB (σ := Unit) (fun _ => [(1, .int .i32 by_), (5, ptrV v), (7, ptrV b1)]) (fun _ => vaultH v st :: refH b1 st :: roM M1 :: []) (fun _ => True) ?_ ?_
  · refine swp_loop (σ := Nat) (fun k => [(1, .int .i32 by_), (5, ptrV v), (7, ptrV b1), (49, .slice a3 es.length c3), (50, .int .i64 es.length), (51, .int .i64 k)])
      (fun k => slO 76 2 a3 es.length c3 (es.flatMap EV.cells) :: allH ((es.drop k).map verH) :: vaultH v st :: refH b1 st :: roM M1 :: []) (fun k => k ≤ es.length) (fun k => es.length - k) 0 ⟨rfl, rfl, rfl, rfl, rfl, rfl, trivial⟩ (by repeat (first | exact Ent.refl _ | exact Ent.nil | refine Ent.pick ?_ | refine Ent.nilS ?_ | refine Ent.nilM ?_ | refine Ent.drop ?_)) (by omega) ?_
    intro k hk
    by_cases hlt : k < es.length
    · obtain ⟨e, he⟩ := mem_get hlt
      rcases ha3 with ha3 | ⟨b3, rfl⟩
      · omega
      have hvl : e.vs.length ≤ 30 ∧ ∀ o ∈ e.vs, o.vec.length ≤ 8 := by
        have h1 := hwf.wf.co e.abs (hep.mem_iff.1 (List.mem_map_of_mem (List.mem_of_getElem? he)))
        refine ⟨by have := h1.2.1; simpa using this, fun o ho => h1.2.2 o.abs (List.mem_map_of_mem ho)⟩
      rw [drop_at he]
      refine swp_ent (L' := slO 78 2 e.a e.vs.length e.c (e.vs.flatMap OV.cells) :: vecsH e.vs :: allH ((es.drop (k + 1)).map verH) :: slO 76 2 (some ⟨b3, 0, none⟩) es.length c3 (es.flatMap EV.cells) :: vaultH v st :: refH b1 st :: roM M1 :: []) ?_ ?_
      · refine Ent.trans (Ent.perm (.swap _ _ _)) ?_
        refine Ent.trans (allH_out (A := verH e) (l := (es.drop (k + 1)).map verH)) ?_
        refine Ent.trans pair_out ?_
        repeat (first | exact Ent.refl _ | exact Ent.nil | refine Ent.pick ?_ | refine Ent.nilS ?_ | refine Ent.nilM ?_ | refine Ent.drop ?_)
      have hr : RdC (slO 78 2 e.a e.vs.length e.c (e.vs.flatMap OV.cells) :: vecsH e.vs :: allH ((es.drop (k + 1)).map verH) :: slO 76 2 (some ⟨b3, 0, none⟩) es.length c3 (es.flatMap EV.cells) :: vaultH v st :: refH b1 st :: roM M1 :: []) b3 (0 + k * 2) (EV.cells e) := RdC.elem (g := EV.cells) (fun _ => rfl) RdC.ofS he
      repeat (first | (refine GQ.y ?_; refine Q.y ?_) | refine Q.go ?_ | (refine GQ.g ?_; refine Q.gq ?_) | (refine GQ.s ?_; refine Q.st ?_) | (refine GQ.g ?_; refine Q.gd ?_) | refine Q.ct rfl ?_ | refine Q.cf rfl ?_ | (refine GQ.a ?_; refine Q.al (fun b1 => ?_)))
      rename_i bp
      refine swp_addr e.a (fun hae => ?_)
      refine swp_loop (σ := Nat) (fun j => [(1, .int .i32 by_), (5, ptrV v), (7, ptrV bp), (11, .pointer (some ⟨b1, 0, none⟩)), (49, .slice (some ⟨b3, 0, none⟩) es.length c3), (50, .int .i64 es.length), (51, .int .i64 k), (57, .int .i64 e.vs.length), (58, .int .i64 j)])
        (fun j => pt b1 (cl e.cells 76) :: slO 78 2 e.a e.vs.length e.c (e.vs.flatMap OV.cells) :: vecsH (e.vs.drop j) :: allH ((es.drop (k + 1)).map verH) :: slO 76 2 (some ⟨b3, 0, none⟩) es.length c3 (es.flatMap EV.cells) :: vaultH v st :: refH bp st :: roM M1 :: []) (fun j => j ≤ e.vs.length) (fun j => e.vs.length - j) 0 ⟨rfl, rfl, rfl, rfl, rfl, rfl, rfl, rfl, rfl, trivial⟩ (by repeat (first | exact Ent.refl _ | exact Ent.nil | refine Ent.pick ?_ | refine Ent.nilS ?_ | refine Ent.nilM ?_ | refine Ent.drop ?_)) (by omega) ?_
      intro j hj
      by_cases hjl : j < e.vs.length
      · obtain ⟨o, ho⟩ := mem_get hjl
        have ho8 := hvl.2 o (List.mem_of_getElem? ho)
        rw [drop_at ho]
        refine swp_ent (L' := slO 21 1 o.a o.vec.length o.c (o.vec.map I32) :: pt b1 (cl e.cells 76) :: slO 78 2 e.a e.vs.length e.c (e.vs.flatMap OV.cells) :: vecsH (e.vs.drop (j + 1)) :: allH ((es.drop (k + 1)).map verH) :: slO 76 2 (some ⟨b3, 0, none⟩) es.length c3 (es.flatMap EV.cells) :: vaultH v st :: refH bp st :: roM M1 :: []) ?_ ?_
        · refine Ent.trans (?_ : Ent _ (vecsH (o :: e.vs.drop (j + 1)) :: pt b1 (cl e.cells 76) :: slO 78 2 e.a e.vs.length e.c (e.vs.flatMap OV.cells) :: allH ((es.drop (k + 1)).map verH) :: slO 76 2 (some ⟨b3, 0, none⟩) es.length c3 (es.flatMap EV.cells) :: vaultH v st :: refH bp st :: roM M1 :: [])) ?_
          · repeat (first | exact Ent.refl _ | exact Ent.nil | refine Ent.pick ?_ | refine Ent.nilS ?_ | refine Ent.nilM ?_ | refine Ent.drop ?_)
          refine Ent.trans vecs_out ?_
          repeat (first | exact Ent.refl _ | exact Ent.nil | refine Ent.pick ?_ | refine Ent.nilS ?_ | refine Ent.nilM ?_ | refine Ent.drop ?_)
        refine swp_addr o.a (fun hao => ?_)
        obtain ⟨be, hbe⟩ := hae.resolve_left (by omega)
        obtain ⟨ei, ea, ec, evs⟩ := e
        obtain ⟨oi, oa, oc, ov⟩ := o
        dsimp only at hbe hjl hao ho8 ⊢
        subst hbe
        have hr4 : RdC (slO 21 1 oa ov.length oc (ov.map I32) :: pt b1 (cl [.int .u64 ei, .slice (some ⟨be, 0, none⟩) evs.length ec] 76) :: slO 78 2 (some ⟨be, 0, none⟩) evs.length ec (evs.flatMap OV.cells) :: vecsH (evs.drop (j + 1)) :: allH ((es.drop (k + 1)).map verH) :: slO 76 2 (some ⟨b3, 0, none⟩) es.length c3 (es.flatMap EV.cells) :: vaultH v st :: refH bp st :: roM M1 :: []) be (0 + j * 2) [.int .u64 oi, .slice oa ov.length oc] := RdC.elem (g := OV.cells) (fun _ => rfl) RdC.ofS ho
        repeat (first | refine S.y (Y.ldRj rfl (by first | assumption | exact RdC.sub (by assumption)) rfl) ?_ | (refine GQ.y ?_; refine Q.y ?_) | refine Q.go ?_ | (refine GQ.g ?_; refine Q.gq ?_) | (refine GQ.s ?_; refine Q.st ?_) | (refine GQ.g ?_; refine Q.gd ?_) | refine Q.ct rfl ?_ | refine Q.cf rfl ?_ | (refine GQ.a ?_; refine Q.al (fun b1 => ?_)))
        refine swp_loop (σ := Nat × List Value) (fun u => [(1, .int .i32 by_), (5, ptrV v), (7, ptrV bp), (11, .pointer (some ⟨b1, 0, none⟩)), (12, .int .i64 j), (49, .slice (some ⟨b3, 0, none⟩) es.length c3), (50, .int .i64 es.length), (51, .int .i64 k), (57, .int .i64 evs.length), (58, .int .i64 j), (67, .int .i64 ov.length), (68, .int .i64 u.1)])
          (fun u => slO 21 1 oa ov.length oc u.2 :: pt b1 (cl [.int .u64 ei, .slice (some ⟨be, 0, none⟩) evs.length ec] 76) :: slO 78 2 (some ⟨be, 0, none⟩) evs.length ec (evs.flatMap OV.cells) :: vecsH (evs.drop (j + 1)) :: allH ((es.drop (k + 1)).map verH) :: slO 76 2 (some ⟨b3, 0, none⟩) es.length c3 (es.flatMap EV.cells) :: vaultH v st :: refH bp st :: roM M1 :: [])
          (fun u => u.1 ≤ ov.length ∧ u.2.length = ov.length ∧ ∀ v ∈ u.2, ∃ z, v = .int .i32 z) (fun u => ov.length - u.1) (0, ov.map I32) ⟨rfl, rfl, rfl, rfl, rfl, rfl, rfl, rfl, rfl, rfl, rfl, rfl, trivial⟩ (by repeat (first | exact Ent.refl _ | exact Ent.nil | refine Ent.pick ?_ | refine Ent.nilS ?_ | refine Ent.nilM ?_ | refine Ent.drop ?_)) ⟨by dsimp only; omega, by simp, fun v hv => by obtain ⟨z, _, rfl⟩ := List.mem_map.1 hv; exact ⟨_, rfl⟩⟩ ?_
        rintro ⟨y, cs⟩ ⟨hy, hcs, hall⟩
        dsimp only at hy hcs hall ⊢
        by_cases hyl : y < ov.length
        · obtain ⟨w, hv⟩ := mem_get (l := cs) (k := y) (by omega)
          obtain ⟨z, rfl⟩ := hall w (List.mem_of_getElem? hv)
          obtain ⟨bw, rfl⟩ := hao.resolve_left (by omega)
          clear hr4
          have hr5 : RdC (slO 21 1 (some ⟨bw, 0, none⟩) ov.length oc cs :: pt b1 (cl [.int .u64 ei, .slice (some ⟨be, 0, none⟩) evs.length ec] 76) :: slO 78 2 (some ⟨be, 0, none⟩) evs.length ec (evs.flatMap OV.cells) :: vecsH (evs.drop (j + 1)) :: allH ((es.drop (k + 1)).map verH) :: slO 76 2 (some ⟨b3, 0, none⟩) es.length c3 (es.flatMap EV.cells) :: vaultH v st :: refH bp st :: roM M1 :: []) be (0 + j * 2) [.int .u64 oi, .slice (some ⟨bw, 0, none⟩) ov.length oc] := RdC.elem (g := OV.cells) (fun _ => rfl) RdC.ofS ho
          repeat (first | refine S.y (Y.ldRj rfl (by first | assumption | exact RdC.sub (by assumption)) rfl) ?_ | (refine GQ.y ?_; refine Q.y ?_) | refine Q.go ?_ | (refine GQ.g ?_; refine Q.gq ?_) | (refine GQ.s ?_; refine Q.st ?_) | (refine GQ.g ?_; refine Q.gd ?_) | refine Q.ct rfl ?_ | refine Q.cf rfl ?_ | (refine GQ.a ?_; refine Q.al (fun b1 => ?_)))
          refine S.y (Y.ldR (v := .int .i32 z) rfl (RdC.ofS.at (j := y * 1) (by rw [Nat.mul_one]; exact hv))) ?_
          repeat (first | (refine GQ.y ?_; refine Q.y ?_) | refine Q.go ?_ | (refine GQ.g ?_; refine Q.gq ?_) | (refine GQ.s ?_; refine Q.st ?_) | (refine GQ.g ?_; refine Q.gd ?_) | refine Q.ct rfl ?_ | refine Q.cf rfl ?_ | (refine GQ.a ?_; refine Q.al (fun b1 => ?_)))
          refine S.y (Y.xor rfl rfl) ?_
          repeat (first | (refine GQ.y ?_; refine Q.y ?_) | refine Q.go ?_ | (refine GQ.g ?_; refine Q.gq ?_) | (refine GQ.s ?_; refine Q.st ?_) | (refine GQ.g ?_; refine Q.gd ?_) | refine Q.ct rfl ?_ | refine Q.cf rfl ?_ | (refine GQ.a ?_; refine Q.al (fun b1 => ?_)))
          refine S.stO rfl rfl rfl (by omega) rfl ?_
          repeat (first | (refine GQ.y ?_; refine Q.y ?_) | refine Q.go ?_ | (refine GQ.g ?_; refine Q.gq ?_) | (refine GQ.s ?_; refine Q.st ?_) | (refine GQ.g ?_; refine Q.gd ?_) | refine Q.ct rfl ?_ | refine Q.cf rfl ?_ | (refine GQ.a ?_; refine Q.al (fun b1 => ?_)))
          refine ⟨(y + 1, cs.set (0 + y * 1) (.int .i32 (IntKind.i32.wrap ((BitVec.ofInt IntKind.i32.bits z) ^^^ (BitVec.ofInt IntKind.i32.bits by_)).toNat))), ⟨rfl, rfl, rfl, rfl, rfl, rfl, rfl, rfl, rfl, rfl, rfl, rfl, trivial⟩, by (try dsimp only); repeat (first | exact Ent.refl _ | exact Ent.nil | refine Ent.pick ?_ | refine Ent.nilS ?_ | refine Ent.nilM ?_ | refine Ent.drop ?_), ⟨by dsimp only; omega, by simp [hcs], fun v hv => ?_⟩, by dsimp only; omega⟩
          rcases List.mem_or_eq_of_mem_set hv with hv | rfl
          · exact hall v hv
          · exact ⟨_, rfl⟩
        · repeat (first | (refine GQ.y ?_; refine Q.y ?_) | refine Q.go ?_ | (refine GQ.g ?_; refine Q.gq ?_) | (refine GQ.s ?_; refine Q.st ?_) | (refine GQ.g ?_; refine Q.gd ?_) | refine Q.ct rfl ?_ | refine Q.cf rfl ?_ | (refine GQ.a ?_; refine Q.al (fun b1 => ?_)))
          exact ⟨j + 1, ⟨rfl, rfl, rfl, rfl, rfl, rfl, rfl, rfl, rfl, trivial⟩, by (try dsimp only); repeat (first | exact Ent.refl _ | exact Ent.nil | refine Ent.pick ?_ | refine Ent.nilS ?_ | refine Ent.nilM ?_ | refine Ent.drop ?_), by omega, by omega⟩
      · have hje : j = e.vs.length := by omega
        subst hje
        repeat (first | (refine GQ.y ?_; refine Q.y ?_) | refine Q.go ?_ | (refine GQ.g ?_; refine Q.gq ?_) | (refine GQ.s ?_; refine Q.st ?_) | (refine GQ.g ?_; refine Q.gd ?_) | refine Q.ct rfl ?_ | refine Q.cf rfl ?_ | (refine GQ.a ?_; refine Q.al (fun b1 => ?_)))
        exact ⟨k + 1, ⟨rfl, rfl, rfl, rfl, rfl, rfl, trivial⟩, by repeat (first | exact Ent.refl _ | exact Ent.nil | refine Ent.pick ?_ | refine Ent.nilS ?_ | refine Ent.nilM ?_ | refine Ent.drop ?_), by omega, by omega⟩
    · have hke : k = es.length := by omega
      subst hke
      repeat (first | (refine GQ.y ?_; refine Q.y ?_) | refine Q.go ?_ | (refine GQ.g ?_; refine Q.gq ?_) | (refine GQ.s ?_; refine Q.st ?_) | (refine GQ.g ?_; refine Q.gd ?_) | refine Q.ct rfl ?_ | refine Q.cf rfl ?_ | (refine GQ.a ?_; refine Q.al (fun b1 => ?_)))
      exact ⟨(), ⟨rfl, rfl, rfl, trivial⟩, by repeat (first | exact Ent.refl _ | exact Ent.nil | refine Ent.pick ?_ | refine Ent.nilS ?_ | refine Ent.nilM ?_ | refine Ent.drop ?_), trivial⟩
  rintro ⟨⟩ -
  clear hep hel ha3 es a3 c3
  repeat (first | (refine GQ.y ?_; refine Q.y ?_) | refine Q.go ?_ | (refine GQ.g ?_; refine Q.gq ?_) | (refine GQ.s ?_; refine Q.st ?_) | (refine GQ.g ?_; refine Q.gd ?_) | refine Q.ct rfl ?_ | refine Q.cf rfl ?_ | (refine GQ.a ?_; refine Q.al (fun b1 => ?_)))
  -- what Intents tells
  refine S.cv v rfl (IntentsO_spec v st 30 _ hwf.wf (by omega)) ?_
  rintro _ _ ⟨a3, c3, es, rfl, hep, -, rfl⟩
  have hel : es.length ≤ 30 := by
    have h1 := hep.length_eq
    rw [List.length_map] at h1
    have := hwf.wf.il; omega
  refine opsS_addr a3 (fun ha3 => ?_)
  repeat (first | (refine GQ.y ?_; refine Q.y ?_) | refine Q.go ?_ | (refine GQ.g ?_; refine Q.gq ?_) | (refine GQ.s ?_; refine Q.st ?_) | (refine GQ.g ?_; refine Q.gd ?_) | refine Q.ct rfl ?_ | refine Q.cf rfl ?_ | (refine GQ.a ?_; refine Q.al (fun b1 => ?_)))
  refine swp_cutB (σ := Unit) (fun _ => [(1, .int .i32 by_), (5, ptrV v), (7, ptrV b1)]) (fun _ => vaultH v st :: refH b1 st :: roM M1 :: []) (fun _ => True) ?_ ?_
  · refine swp_loop (σ := Nat) (fun k => [(1, .int .i32 by_), (5, ptrV v), (7, ptrV b1), (87, .slice a3 es.length c3), (88, .int .i64 es.length), (89, .int .i64 k)])
      (fun k => slO 44 3 a3 es.length c3 (es.flatMap IV.cells) :: allH ((es.drop k).map opsH) :: vaultH v st :: refH b1 st :: roM M1 :: []) (fun k => k ≤ es.length) (fun k => es.length - k) 0 ⟨rfl, rfl, rfl, rfl, rfl, rfl, trivial⟩ (by repeat (first | exact Ent.refl _ | exact Ent.nil | refine Ent.pick ?_ | refine Ent.nilS ?_ | refine Ent.nilM ?_ | refine Ent.drop ?_)) (by omega) ?_
    intro k hk
    by_cases hlt : k < es.length
    · obtain ⟨e, he⟩ := mem_get hlt
      rcases ha3 with ha3 | ⟨b3, rfl⟩
      · omega
      have hvl : e.ops.length ≤ 16 ∧ ∀ o ∈ e.ops, o.vec.length ≤ 8 := by
        have h1 := hwf.wf.io e.abs (hep.mem_iff.1 (List.mem_map_of_mem (List.mem_of_getElem? he)))
        refine ⟨by have := h1.1; simpa using this, fun o ho => (h1.2.2 o.abs (List.mem_map_of_mem ho)).1⟩
      rw [drop_at he]
      obtain ⟨et, ef, ea, ec, eo⟩ := e
      dsimp only at hvl
      refine swp_ent (L' := slO 47 2 ea eo.length ec (eo.flatMap OV.cells) :: vecsH eo :: allH ((es.drop (k + 1)).map opsH) :: slO 44 3 (some ⟨b3, 0, none⟩) es.length c3 (es.flatMap IV.cells) :: vaultH v st :: refH b1 st :: roM M1 :: []) ?_ ?_
      · refine Ent.trans (Ent.perm (.swap _ _ _)) ?_
        refine Ent.trans (allH_out (A := opsH ⟨et, ef, ea, ec, eo⟩) (l := (es.drop (k + 1)).map opsH)) ?_
        refine Ent.trans pair_out ?_
        dsimp only
        repeat (first | exact Ent.refl _ | exact Ent.nil | refine Ent.pick ?_ | refine Ent.nilS ?_ | refine Ent.nilM ?_ | refine Ent.drop ?_)
      have hr : RdC (slO 47 2 ea eo.length ec (eo.flatMap OV.cells) :: vecsH eo :: allH ((es.drop (k + 1)).map opsH) :: slO 44 3 (some ⟨b3, 0, none⟩) es.length c3 (es.flatMap IV.cells) :: vaultH v st :: refH b1 st :: roM M1 :: []) b3 (0 + k * 3) [.int .u64 et, .int .u64 ef, .slice ea eo.length ec] := RdC.elem (g := IV.cells) (fun _ => rfl) RdC.ofS he
      repeat (first | (refine GQ.y ?_; refine Q.y ?_) | refine Q.go ?_ | (refine GQ.g ?_; refine Q.gq ?_) | (refine GQ.s ?_; refine Q.st ?_) | (refine GQ.g ?_; refine Q.gd ?_) | refine Q.ct rfl ?_ | refine Q.cf rfl ?_ | (refine GQ.a ?_; refine Q.al (fun b1 => ?_)))
      rename_i bp
      refine swp_addr ea (fun hae => ?_)
      refine swp_loop (σ := Nat × List Value) (fun u => [(1, .int .i32 by_), (5, ptrV v), (7, ptrV bp), (15, .pointer (some ⟨b1, 0, none⟩)), (87, .slice (some ⟨b3, 0, none⟩) es.length c3), (88, .int .i64 es.length), (89, .int .i64 k), (95, .int .i64 eo.length), (96, .int .i64 u.1)])
        (fun u => pt b1 (cl [.int .u64 et, .int .u64 ef, .slice ea eo.length ec] 44) :: slO 47 2 ea eo.length ec u.2 :: vecsH (eo.drop u.1) :: allH ((es.drop (k + 1)).map opsH) :: slO 44 3 (some ⟨b3, 0, none⟩) es.length c3 (es.flatMap IV.cells) :: vaultH v st :: refH bp st :: roM M1 :: [])
        (fun u => u.1 ≤ eo.length ∧ u.2.length = eo.length * 2 ∧ ∀ (i : Nat) (o : OV), eo[i]? = some o → (∃ z, u.2[i * 2]? = some (.int .u64 z)) ∧ u.2[i * 2 + 1]? = some (.slice o.a o.vec.length o.c)) (fun u => eo.length - u.1) (0, eo.flatMap OV.cells) ⟨rfl, rfl, rfl, rfl, rfl, rfl, rfl, rfl, rfl, trivial⟩ (by repeat (first | exact Ent.refl _ | exact Ent.nil | refine Ent.pick ?_ | refine Ent.nilS ?_ | refine Ent.nilM ?_ | refine Ent.drop ?_)) ⟨by dsimp only; omega, flat_len2 _, fun i o ho => ⟨⟨o.id, by have := flat_get (g := OV.cells) (sz := 2) (fun _ => rfl) eo i 0 o (.int .u64 o.id) ho rfl; simpa using this⟩, flat_get (g := OV.cells) (sz := 2) (fun _ => rfl) eo i 1 o _ ho rfl⟩⟩ ?_
      rintro ⟨j, cs⟩ ⟨hj, hcl, hcs⟩
      dsimp only at hj hcl hcs ⊢
      by_cases hjl : j < eo.length
      · obtain ⟨o, ho⟩ := mem_get hjl
        have ho8 := hvl.2 o (List.mem_of_getElem? ho)
        obtain ⟨⟨z, hz⟩, hz2⟩ := hcs j o ho
        rw [drop_at ho]
        obtain ⟨oi, oa, oc, ov⟩ := o
        dsimp only at ho8 hz2
        refine swp_ent (L' := slO 21 1 oa ov.length oc (ov.map I32) :: pt b1 (cl [.int .u64 et, .int .u64 ef, .slice ea eo.length ec] 44) :: slO 47 2 ea eo.length ec cs :: vecsH (eo.drop (j + 1)) :: allH ((es.drop (k + 1)).map opsH) :: slO 44 3 (some ⟨b3, 0, none⟩) es.length c3 (es.flatMap IV.cells) :: vaultH v st :: refH bp st :: roM M1 :: []) ?_ ?_
        · refine Ent.trans (?_ : Ent _ (vecsH (⟨oi, oa, oc, ov⟩ :: eo.drop (j + 1)) :: pt b1 (cl [.int .u64 et, .int .u64 ef, .slice ea eo.length ec] 44) :: slO 47 2 ea eo.length ec cs :: allH ((es.drop (k + 1)).map opsH) :: slO 44 3 (some ⟨b3, 0, none⟩) es.length c3 (es.flatMap IV.cells) :: vaultH v st :: refH bp st :: roM M1 :: [])) ?_
          · repeat (first | exact Ent.refl _ | exact Ent.nil | refine Ent.pick ?_ | refine Ent.nilS ?_ | refine Ent.nilM ?_ | refine Ent.drop ?_)
          refine Ent.trans vecs_out ?_
          dsimp only
          repeat (first | exact Ent.refl _ | exact Ent.nil | refine Ent.pick ?_ | refine Ent.nilS ?_ | refine Ent.nilM ?_ | refine Ent.drop ?_)
        refine swp_addr oa (fun hao => ?_)
        obtain ⟨be, rfl⟩ := hae.resolve_left (by omega)
        repeat (first | (refine GQ.y ?_; refine Q.y ?_) | refine Q.go ?_ | (refine GQ.g ?_; refine Q.gq ?_) | (refine GQ.s ?_; refine Q.st ?_) | (refine GQ.g ?_; refine Q.gd ?_) | refine Q.ct rfl ?_ | refine Q.cf rfl ?_ | (refine GQ.a ?_; refine Q.al (fun b1 => ?_)))
        refine S.y (Y.ldR (v := .int .u64 z) rfl (RdC.ofS.at (j := j * 2) hz)) ?_
        repeat (first | (refine GQ.y ?_; refine Q.y ?_) | refine Q.go ?_ | (refine GQ.g ?_; refine Q.gq ?_) | (refine GQ.s ?_; refine Q.st ?_) | (refine GQ.g ?_; refine Q.gd ?_) | refine Q.ct rfl ?_ | refine Q.cf rfl ?_ | (refine GQ.a ?_; refine Q.al (fun b1 => ?_)))
        refine S.y (Y.xor rfl rfl) ?_
        repeat (first | (refine GQ.y ?_; refine Q.y ?_) | refine Q.go ?_ | (refine GQ.g ?_; refine Q.gq ?_) | (refine GQ.s ?_; refine Q.st ?_) | (refine GQ.g ?_; refine Q.gd ?_) | refine Q.ct rfl ?_ | refine Q.cf rfl ?_ | (refine GQ.a ?_; refine Q.al (fun b1 => ?_)))
        refine S.stO rfl rfl rfl (by omega) rfl ?_
        have hz3 : (cs.set (0 + j * 2 + 0) (.int .u64 (IntKind.u64.wrap ((BitVec.ofInt IntKind.u64.bits z) ^^^ (BitVec.ofInt IntKind.u64.bits 1)).toNat)))[j * 2 + 1]? = some (.slice oa ov.length oc) := by rw [List.getElem?_set_ne (by omega)]; exact hz2
        have hcs2 : ∀ (i : Nat) (o : OV), eo[i]? = some o → (∃ z', (cs.set (0 + j * 2 + 0) (.int .u64 (IntKind.u64.wrap ((BitVec.ofInt IntKind.u64.bits z) ^^^ (BitVec.ofInt IntKind.u64.bits 1)).toNat)))[i * 2]? = some (.int .u64 z')) ∧ (cs.set (0 + j * 2 + 0) (.int .u64 (IntKind.u64.wrap ((BitVec.ofInt IntKind.u64.bits z) ^^^ (BitVec.ofInt IntKind.u64.bits 1)).toNat)))[i * 2 + 1]? = some (.slice o.a o.vec.length o.c) := fun i o ho2 => by
          obtain ⟨⟨z', h1⟩, h2⟩ := hcs i o ho2
          refine ⟨?_, by rw [List.getElem?_set_ne (by omega)]; exact h2⟩
          by_cases hij : i = j
          · subst hij
            exact ⟨_, by rw [show 0 + i * 2 + 0 = i * 2 by omega, List.getElem?_set_self (by omega)]⟩
          · exact ⟨z', by rw [List.getElem?_set_ne (by omega)]; exact h1⟩
        have hcl2 : (cs.set (0 + j * 2 + 0) (.int .u64 (IntKind.u64.wrap ((BitVec.ofInt IntKind.u64.bits z) ^^^ (BitVec.ofInt IntKind.u64.bits 1)).toNat))).length = eo.length * 2 := by rw [List.length_set]; exact hcl
        generalize cs.set (0 + j * 2 + 0) (.int .u64 (IntKind.u64.wrap ((BitVec.ofInt IntKind.u64.bits z) ^^^ (BitVec.ofInt IntKind.u64.bits 1)).toNat)) = cs2 at hz3 hcs2 hcl2 ⊢
        repeat (first | (refine GQ.y ?_; refine Q.y ?_) | refine Q.go ?_ | (refine GQ.g ?_; refine Q.gq ?_) | (refine GQ.s ?_; refine Q.st ?_) | (refine GQ.g ?_; refine Q.gd ?_) | refine Q.ct rfl ?_ | refine Q.cf rfl ?_ | (refine GQ.a ?_; refine Q.al (fun b1 => ?_)))
        refine S.y (Y.ldR (v := .slice oa ov.length oc) rfl (RdC.ofS.at (j := j * 2 + 1) hz3)) ?_
        repeat (first | (refine GQ.y ?_; refine Q.y ?_) | refine Q.go ?_ | (refine GQ.g ?_; refine Q.gq ?_) | (refine GQ.s ?_; refine Q.st ?_) | (refine GQ.g ?_; refine Q.gd ?_) | refine Q.ct rfl ?_ | refine Q.cf rfl ?_ | (refine GQ.a ?_; refine Q.al (fun b1 => ?_)))
        refine swp_loop (σ := Nat × List Value) (fun u => [(1, .int .i32 by_), (5, ptrV v), (7, ptrV bp), (15, .pointer (some ⟨b1, 0, none⟩)), (16, .int .i64 j), (87, .slice (some ⟨b3, 0, none⟩) es.length c3), (88, .int .i64 es.length), (89, .int .i64 k), (95, .int .i64 eo.length), (96, .int .i64 j), (114, .int .i64 ov.length), (115, .int .i64 u.1)])
          (fun u => slO 21 1 oa ov.length oc u.2 :: pt b1 (cl [.int .u64 et, .int .u64 ef, .slice (some ⟨be, 0, none⟩) eo.length ec] 44) :: slO 47 2 (some ⟨be, 0, none⟩) eo.length ec cs2 :: vecsH (eo.drop (j + 1)) :: allH ((es.drop (k + 1)).map opsH) :: slO 44 3 (some ⟨b3, 0, none⟩) es.length c3 (es.flatMap IV.cells) :: vaultH v st :: refH bp st :: roM M1 :: [])
          (fun u => u.1 ≤ ov.length ∧ u.2.length = ov.length ∧ ∀ v ∈ u.2, ∃ z, v = .int .i32 z) (fun u => ov.length - u.1) (0, ov.map I32) ⟨rfl, rfl, rfl, rfl, rfl, rfl, rfl, rfl, rfl, rfl, rfl, rfl, trivial⟩ (by repeat (first | exact Ent.refl _ | exact Ent.nil | refine Ent.pick ?_ | refine Ent.nilS ?_ | refine Ent.nilM ?_ | refine Ent.drop ?_)) ⟨by dsimp only; omega, by simp, fun v hv => by obtain ⟨z, _, rfl⟩ := List.mem_map.1 hv; exact ⟨_, rfl⟩⟩ ?_
        rintro ⟨y, vs⟩ ⟨hy, hvs, hall⟩
        dsimp only at hy hvs hall ⊢
        by_cases hyl : y < ov.length
        · obtain ⟨w, hv⟩ := mem_get (l := vs) (k := y) (by omega)
          obtain ⟨x, rfl⟩ := hall w (List.mem_of_getElem? hv)
          obtain ⟨bw, rfl⟩ := hao.resolve_left (by omega)
          repeat (first | (refine GQ.y ?_; refine Q.y ?_) | refine Q.go ?_ | (refine GQ.g ?_; refine Q.gq ?_) | (refine GQ.s ?_; refine Q.st ?_) | (refine GQ.g ?_; refine Q.gd ?_) | refine Q.ct rfl ?_ | refine Q.cf rfl ?_ | (refine GQ.a ?_; refine Q.al (fun b1 => ?_)))
          refine S.y (Y.ldR (v := .slice (some ⟨bw, 0, none⟩) ov.length oc) rfl (RdC.ofS.at (j := j * 2 + 1) hz3)) ?_
          repeat (first | (refine GQ.y ?_; refine Q.y ?_) | refine Q.go ?_ | (refine GQ.g ?_; refine Q.gq ?_) | (refine GQ.s ?_; refine Q.st ?_) | (refine GQ.g ?_; refine Q.gd ?_) | refine Q.ct rfl ?_ | refine Q.cf rfl ?_ | (refine GQ.a ?_; refine Q.al (fun b1 => ?_)))
          refine S.y (Y.ldR (v := .int .i32 x) rfl (RdC.ofS.at (j := y * 1) (by rw [Nat.mul_one]; exact hv))) ?_
          repeat (first | (refine GQ.y ?_; refine Q.y ?_) | refine Q.go ?_ | (refine GQ.g ?_; refine Q.gq ?_) | (refine GQ.s ?_; refine Q.st ?_) | (refine GQ.g ?_; refine Q.gd ?_) | refine Q.ct rfl ?_ | refine Q.cf rfl ?_ | (refine GQ.a ?_; refine Q.al (fun b1 => ?_)))
          refine S.y (Y.xor rfl rfl) ?_
          repeat (first | (refine GQ.y ?_; refine Q.y ?_) | refine Q.go ?_ | (refine GQ.g ?_; refine Q.gq ?_) | (refine GQ.s ?_; refine Q.st ?_) | (refine GQ.g ?_; refine Q.gd ?_) | refine Q.ct rfl ?_ | refine Q.cf rfl ?_ | (refine GQ.a ?_; refine Q.al (fun b1 => ?_)))
          refine S.stO rfl rfl rfl (by omega) rfl ?_
          repeat (first | (refine GQ.y ?_; refine Q.y ?_) | refine Q.go ?_ | (refine GQ.g ?_; refine Q.gq ?_) | (refine GQ.s ?_; refine Q.st ?_) | (refine GQ.g ?_; refine Q.gd ?_) | refine Q.ct rfl ?_ | refine Q.cf rfl ?_ | (refine GQ.a ?_; refine Q.al (fun b1 => ?_)))
          refine ⟨(y + 1, vs.set (0 + y * 1) (.int .i32 (IntKind.i32.wrap ((BitVec.ofInt IntKind.i32.bits x) ^^^ (BitVec.ofInt IntKind.i32.bits by_)).toNat))), ⟨rfl, rfl, rfl, rfl, rfl, rfl, rfl, rfl, rfl, rfl, rfl, rfl, trivial⟩, by (try dsimp only); repeat (first | exact Ent.refl _ | exact Ent.nil | refine Ent.pick ?_ | refine Ent.nilS ?_ | refine Ent.nilM ?_ | refine Ent.drop ?_), ⟨by dsimp only; omega, by simp [hvs], fun v hv => ?_⟩, by dsimp only; omega⟩
          rcases List.mem_or_eq_of_mem_set hv with hv | rfl
          · exact hall v hv
          · exact ⟨_, rfl⟩
        · repeat (first | (refine GQ.y ?_; refine Q.y ?_) | refine Q.go ?_ | (refine GQ.g ?_; refine Q.gq ?_) | (refine GQ.s ?_; refine Q.st ?_) | (refine GQ.g ?_; refine Q.gd ?_) | refine Q.ct rfl ?_ | refine Q.cf rfl ?_ | (refine GQ.a ?_; refine Q.al (fun b1 => ?_)))
          exact ⟨(j + 1, cs2), ⟨rfl, rfl, rfl, rfl, rfl, rfl, rfl, rfl, rfl, trivial⟩, by (try dsimp only); repeat (first | exact Ent.refl _ | exact Ent.nil | refine Ent.pick ?_ | refine Ent.nilS ?_ | refine Ent.nilM ?_ | refine Ent.drop ?_), ⟨by dsimp only; omega, hcl2, hcs2⟩, by dsimp only; omega⟩
      · have hje : j = eo.length := by omega
        subst hje
        repeat (first | (refine GQ.y ?_; refine Q.y ?_) | refine Q.go ?_ | (refine GQ.g ?_; refine Q.gq ?_) | (refine GQ.s ?_; refine Q.st ?_) | (refine GQ.g ?_; refine Q.gd ?_) | refine Q.ct rfl ?_ | refine Q.cf rfl ?_ | (refine GQ.a ?_; refine Q.al (fun b1 => ?_)))
        exact ⟨k + 1, ⟨rfl, rfl, rfl, rfl, rfl, rfl, trivial⟩, by repeat (first | exact Ent.refl _ | exact Ent.nil | refine Ent.pick ?_ | refine Ent.nilS ?_ | refine Ent.nilM ?_ | refine Ent.drop ?_), by omega, by omega⟩
    · have hke : k = es.length := by omega
      subst hke
      repeat (first | (refine GQ.y ?_; refine Q.y ?_) | refine Q.go ?_ | (refine GQ.g ?_; refine Q.gq ?_) | (refine GQ.s ?_; refine Q.st ?_) | (refine GQ.g ?_; refine Q.gd ?_) | refine Q.ct rfl ?_ | refine Q.cf rfl ?_ | (refine GQ.a ?_; refine Q.al (fun b1 => ?_)))
      exact ⟨(), ⟨rfl, rfl, rfl, trivial⟩, by repeat (first | exact Ent.refl _ | exact Ent.nil | refine Ent.pick ?_ | refine Ent.nilS ?_ | refine Ent.nilM ?_ | refine Ent.drop ?_), trivial⟩
  rintro ⟨⟩ -
  clear hep hel ha3 es a3 c3
  repeat (first | (refine GQ.y ?_; refine Q.y ?_) | refine Q.go ?_ | (refine GQ.g ?_; refine Q.gq ?_) | (refine GQ.s ?_; refine Q.st ?_) | (refine GQ.g ?_; refine Q.gd ?_) | refine Q.ct rfl ?_ | refine Q.cf rfl ?_ | (refine GQ.a ?_; refine Q.al (fun b1 => ?_)))
  -- what Scan tells
  refine S.cv v rfl (Scan_spec v st 30 1099511627776 _ hwf.wf (by omega)) ?_
  rintro _ _ ⟨a3, c3, us, rfl, hus, hua, hul, rfl⟩
  refine opsS_addr a3 (fun ha3 => ?_)
  have huv : ∀ o ∈ us, o.vec.length ≤ 8 := fun o ho => scan_vec hwf.wf 1099511627776 o.abs (by rw [← hus]; exact List.mem_map_of_mem ho)
  repeat (first | (refine GQ.y ?_; refine Q.y ?_) | refine Q.go ?_ | (refine GQ.g ?_; refine Q.gq ?_) | (refine GQ.s ?_; refine Q.st ?_) | (refine GQ.g ?_; refine Q.gd ?_) | refine Q.ct rfl ?_ | refine Q.cf rfl ?_ | (refine GQ.a ?_; refine Q.al (fun b1 => ?_)))
  refine swp_cutB (σ := Unit) (fun _ => [(1, .int .i32 by_), (5, ptrV v), (7, ptrV b1)]) (fun _ => vaultH v st :: refH b1 st :: roM M1 :: []) (fun _ => True) ?_ ?_
  · refine swp_loop (σ := Nat) (fun k => [(1, .int .i32 by_), (5, ptrV v), (7, ptrV b1), (138, .slice a3 us.length c3), (139, .int .i64 us.length), (140, .int .i64 k)])
      (fun k => slO 80 3 a3 us.length c3 (us.flatMap cH) :: vecsH (us.drop k) :: vaultH v st :: refH b1 st :: roM M1 :: []) (fun k => k ≤ us.length) (fun k => us.length - k) 0 ⟨rfl, rfl, rfl, rfl, rfl, rfl, trivial⟩ (by repeat (first | exact Ent.refl _ | exact Ent.nil | refine Ent.pick ?_ | refine Ent.nilS ?_ | refine Ent.nilM ?_ | refine Ent.drop ?_)) (by omega) ?_
    intro k hk
    by_cases hlt : k < us.length
    · obtain ⟨o, ho⟩ := mem_get hlt
      have ho8 := huv o (List.mem_of_getElem? ho)
      have hao := hua o (List.mem_of_getElem? ho)
      rcases ha3 with ha3 | ⟨b3, rfl⟩
      · omega
      rw [drop_at ho]
      obtain ⟨oi, oa, oc, ov⟩ := o
      dsimp only at ho8 hao
      refine swp_ent (L' := slO 21 1 oa ov.length oc (ov.map I32) :: vecsH (us.drop (k + 1)) :: slO 80 3 (some ⟨b3, 0, none⟩) us.length c3 (us.flatMap cH) :: vaultH v st :: refH b1 st :: roM M1 :: []) ?_ ?_
      · refine Ent.trans (Ent.perm (.swap _ _ _)) ?_
        refine Ent.trans vecs_out ?_
        dsimp only
        repeat (first | exact Ent.refl _ | exact Ent.nil | refine Ent.pick ?_ | refine Ent.nilS ?_ | refine Ent.nilM ?_ | refine Ent.drop ?_)
      have hr : RdC (slO 21 1 oa ov.length oc (ov.map I32) :: vecsH (us.drop (k + 1)) :: slO 80 3 (some ⟨b3, 0, none⟩) us.length c3 (us.flatMap cH) :: vaultH v st :: refH b1 st :: roM M1 :: []) b3 (0 + k * 3) [.int .u64 oi, .int .u64 0, .slice oa ov.length oc] := RdC.elem (g := cH) (fun _ => rfl) RdC.ofS ho
      repeat (first | (refine GQ.y ?_; refine Q.y ?_) | refine Q.go ?_ | (refine GQ.g ?_; refine Q.gq ?_) | (refine GQ.s ?_; refine Q.st ?_) | (refine GQ.g ?_; refine Q.gd ?_) | refine Q.ct rfl ?_ | refine Q.cf rfl ?_ | (refine GQ.a ?_; refine Q.al (fun b1 => ?_)))
      rename_i bp
      refine swp_loop (σ := Nat × List Value) (fun u => [(1, .int .i32 by_), (5, ptrV v), (7, ptrV bp), (21, .pointer (some ⟨b1, 0, none⟩)), (138, .slice (some ⟨b3, 0, none⟩) us.length c3), (139, .int .i64 us.length), (140, .int .i64 k), (146, .int .i64 ov.length), (147, .int .i64 u.1)])
        (fun u => slO 21 1 oa ov.length oc u.2 :: pt b1 (cl [.int .u64 oi, .int .u64 0, .slice oa ov.length oc] 80) :: vecsH (us.drop (k + 1)) :: slO 80 3 (some ⟨b3, 0, none⟩) us.length c3 (us.flatMap cH) :: vaultH v st :: refH bp st :: roM M1 :: [])
        (fun u => u.1 ≤ ov.length ∧ u.2.length = ov.length ∧ ∀ v ∈ u.2, ∃ z, v = .int .i32 z) (fun u => ov.length - u.1) (0, ov.map I32) ⟨rfl, rfl, rfl, rfl, rfl, rfl, rfl, rfl, rfl, trivial⟩ (by repeat (first | exact Ent.refl _ | exact Ent.nil | refine Ent.pick ?_ | refine Ent.nilS ?_ | refine Ent.nilM ?_ | refine Ent.drop ?_)) ⟨by dsimp only; omega, by simp, fun v hv => by obtain ⟨z, _, rfl⟩ := List.mem_map.1 hv; exact ⟨_, rfl⟩⟩ ?_
      rintro ⟨y, vs⟩ ⟨hy, hvs, hall⟩
      dsimp only at hy hvs hall ⊢
      by_cases hyl : y < ov.length
      · obtain ⟨w, hv⟩ := mem_get (l := vs) (k := y) (by omega)
        obtain ⟨x, rfl⟩ := hall w (List.mem_of_getElem? hv)
        obtain ⟨bw, rfl⟩ := hao.resolve_left (by omega)
        repeat (first | (refine GQ.y ?_; refine Q.y ?_) | refine Q.go ?_ | (refine GQ.g ?_; refine Q.gq ?_) | (refine GQ.s ?_; refine Q.st ?_) | (refine GQ.g ?_; refine Q.gd ?_) | refine Q.ct rfl ?_ | refine Q.cf rfl ?_ | (refine GQ.a ?_; refine Q.al (fun b1 => ?_)))
        refine S.y (Y.ldR (v := .int .i32 x) rfl (RdC.ofS.at (j := y * 1) (by rw [Nat.mul_one]; exact hv))) ?_
        repeat (first | (refine GQ.y ?_; refine Q.y ?_) | refine Q.go ?_ | (refine GQ.g ?_; refine Q.gq ?_) | (refine GQ.s ?_; refine Q.st ?_) | (refine GQ.g ?_; refine Q.gd ?_) | refine Q.ct rfl ?_ | refine Q.cf rfl ?_ | (refine GQ.a ?_; refine Q.al (fun b1 => ?_)))
        refine S.y (Y.xor rfl rfl) ?_
        repeat (first | (refine GQ.y ?_; refine Q.y ?_) | refine Q.go ?_ | (refine GQ.g ?_; refine Q.gq ?_) | (refine GQ.s ?_; refine Q.st ?_) | (refine GQ.g ?_; refine Q.gd ?_) | refine Q.ct rfl ?_ | refine Q.cf rfl ?_ | (refine GQ.a ?_; refine Q.al (fun b1 => ?_)))
        refine S.stO rfl rfl rfl (by omega) rfl ?_
        repeat (first | (refine GQ.y ?_; refine Q.y ?_) | refine Q.go ?_ | (refine GQ.g ?_; refine Q.gq ?_) | (refine GQ.s ?_; refine Q.st ?_) | (refine GQ.g ?_; refine Q.gd ?_) | refine Q.ct rfl ?_ | refine Q.cf rfl ?_ | (refine GQ.a ?_; refine Q.al (fun b1 => ?_)))
        refine ⟨(y + 1, vs.set (0 + y * 1) (.int .i32 (IntKind.i32.wrap ((BitVec.ofInt IntKind.i32.bits x) ^^^ (BitVec.ofInt IntKind.i32.bits by_)).toNat))), ⟨rfl, rfl, rfl, rfl, rfl, rfl, rfl, rfl, rfl, trivial⟩, by (try dsimp only); repeat (first | exact Ent.refl _ | exact Ent.nil | refine Ent.pick ?_ | refine Ent.nilS ?_ | refine Ent.nilM ?_ | refine Ent.drop ?_), ⟨by dsimp only; omega, by simp [hvs], fun v hv => ?_⟩, by dsimp only; omega⟩
        rcases List.mem_or_eq_of_mem_set hv with hv | rfl
        · exact hall v hv
        · exact ⟨_, rfl⟩
      · repeat (first | (refine GQ.y ?_; refine Q.y ?_) | refine Q.go ?_ | (refine GQ.g ?_; refine Q.gq ?_) | (refine GQ.s ?_; refine Q.st ?_) | (refine GQ.g ?_; refine Q.gd ?_) | refine Q.ct rfl ?_ | refine Q.cf rfl ?_ | (refine GQ.a ?_; refine Q.al (fun b1 => ?_)))
        exact ⟨k + 1, ⟨rfl, rfl, rfl, rfl, rfl, rfl, trivial⟩, by (try dsimp only); repeat (first | exact Ent.refl _ | exact Ent.nil | refine Ent.pick ?_ | refine Ent.nilS ?_ | refine Ent.nilM ?_ | refine Ent.drop ?_), by omega, by omega⟩
    · have hke : k = us.length := by omega
      subst hke
      repeat (first | (refine GQ.y ?_; refine Q.y ?_) | refine Q.go ?_ | (refine GQ.g ?_; refine Q.gq ?_) | (refine GQ.s ?_; refine Q.st ?_) | (refine GQ.g ?_; refine Q.gd ?_) | refine Q.ct rfl ?_ | refine Q.cf rfl ?_ | (refine GQ.a ?_; refine Q.al (fun b1 => ?_)))
      exact ⟨(), ⟨rfl, rfl, rfl, trivial⟩, by repeat (first | exact Ent.refl _ | exact Ent.nil | refine Ent.pick ?_ | refine Ent.nilS ?_ | refine Ent.nilM ?_ | refine Ent.drop ?_), trivial⟩
  rintro ⟨⟩ -
  clear hus hua hul huv ha3 us a3 c3
  repeat (first | (refine GQ.y ?_; refine Q.y ?_) | refine Q.go ?_ | (refine GQ.g ?_; refine Q.gq ?_) | (refine GQ.s ?_; refine Q.st ?_) | (refine GQ.g ?_; refine Q.gd ?_) | refine Q.ct rfl ?_ | refine Q.cf rfl ?_ | (refine GQ.a ?_; refine Q.al (fun b1 => ?_)))
  refine S.cr rfl (asks_spec v b1 st 30 ⟨0, 0, 0, none, 0, [], 0, 1099511627776, 0, none, 0, []⟩ M1 _ hwf.wf (by omega) ⟨rfl, .inl rfl⟩ (by simp) (by simp)) ?_
  rintro _ _ ⟨rfl, M3, hl3, rfl⟩
  repeat (first | (refine GQ.y ?_; refine Q.y ?_) | refine Q.go ?_ | (refine GQ.g ?_; refine Q.gq ?_) | (refine GQ.s ?_; refine Q.st ?_) | (refine GQ.g ?_; refine Q.gd ?_) | refine Q.ct rfl ?_ | refine Q.cf rfl ?_ | (refine GQ.a ?_; refine Q.al (fun b1 => ?_)))
  exact N.r1 (RV.tmp rfl RV.nil) (Ent.refl _) rfl
end Go.Proofs.Ytieejgbjgcbbjaa
