/- The ref's vault: Put, set. No condition. -/
import Derived.Test.YtieejgbjgcbbjaaGreatVtM
set_option linter.unusedVariables false
set_option linter.unusedSimpArgs false
namespace Go.Proofs.YtieejgbjgcbbjaaGreat
open Go Go.SX
attribute [local irreducible] swp opsS thenS blockS retS CallsS St Ent YieldS anyS drawS
set_option maxHeartbeats 1000000 in
theorem RPut_spec (a : Option Addr) (c : Nat) (ovs : List OV) (o : OV) (L : List HP) (h : RdS L a ovs.length 2 (ovs.flatMap OV.cells)) (ho : RdS L o.a o.vec.length 1 (o.vec.map I32)) (hoc : o.vec.length ≤ o.c) (hov : o.vec.length ≤ 10) (hn : ovs.length ≤ 1000000)
    (h1 : 1 ≤ o.id) (h2 : o.id ≤ 1099511627776) (h3 : 0 < o.vec.length → rightV o.vec = true) (h4 : ∀ u ∈ ovs, u.id < o.id) :
    CallsS Tryz.prog 22 [.slice a ovs.length c, o.val] L (fun r L' => ∃ a2 c2 a' c', r = .tuple #[.slice a2 (ovs.length + 1) c2, .int .i64 0] ∧ L' = slO 43 2 a2 (ovs.length + 1) c2 (ovs.flatMap OV.cells ++ OV.cells ⟨o.id, a', c', o.vec⟩) :: slO 21 1 a' o.vec.length c' (o.vec.map I32) :: L) := by
  refine CallsS.of_body Tryz.func22 rfl rfl rfl ?_
  repeat (first | (refine GQ.y ?_; refine Q.y ?_) | refine Q.go ?_ | (refine GQ.g ?_; refine Q.gq ?_) | (refine GQ.s ?_; refine Q.st ?_) | (refine GQ.g ?_; refine Q.gd ?_) | refine Q.ct rfl ?_ | refine Q.cf rfl ?_ | (refine GQ.a ?_; refine Q.al (fun b1 => ?_)))
  refine opsS_cutT (σ := Unit) (fun _ => [(0, .slice a ovs.length c), (3, .pointer (some ⟨b1, 0, none⟩)), (26, .bool false)]) (fun _ => pt b1 (cl o.cells 43) :: L) (fun _ => True) ?_ ?_
  · by_cases h0 : 0 < o.vec.length
    · repeat (first | (refine GQ.y ?_; refine Q.y ?_) | refine Q.go ?_ | (refine GQ.g ?_; refine Q.gq ?_) | (refine GQ.s ?_; refine Q.st ?_) | (refine GQ.g ?_; refine Q.gd ?_) | refine Q.ct rfl ?_ | refine Q.cf rfl ?_ | (refine GQ.a ?_; refine Q.al (fun b1 => ?_)))
      refine S.cr rfl (RRight_spec o.a o.c o.vec _ ho.sub (by omega)) ?_
      rintro _ _ ⟨rfl, rfl⟩
      rw [h3 h0]
      repeat (first | (refine GQ.y ?_; refine Q.y ?_) | refine Q.go ?_ | (refine GQ.g ?_; refine Q.gq ?_) | (refine GQ.s ?_; refine Q.st ?_) | (refine GQ.g ?_; refine Q.gd ?_) | refine Q.ct rfl ?_ | refine Q.cf rfl ?_ | (refine GQ.a ?_; refine Q.al (fun b1 => ?_)))
      exact ⟨(), ⟨rfl, rfl, rfl, trivial⟩, Ent.refl _, trivial⟩
    · repeat (first | (refine GQ.y ?_; refine Q.y ?_) | refine Q.go ?_ | (refine GQ.g ?_; refine Q.gq ?_) | (refine GQ.s ?_; refine Q.st ?_) | (refine GQ.g ?_; refine Q.gd ?_) | refine Q.ct rfl ?_ | refine Q.cf rfl ?_ | (refine GQ.a ?_; refine Q.al (fun b1 => ?_)))
      exact ⟨(), ⟨rfl, rfl, by rw [decide_eq_false (by omega)]; rfl, trivial⟩, Ent.refl _, trivial⟩
  intro _ _
  repeat (first | (refine GQ.y ?_; refine Q.y ?_) | refine Q.go ?_ | (refine GQ.g ?_; refine Q.gq ?_) | (refine GQ.s ?_; refine Q.st ?_) | (refine GQ.g ?_; refine Q.gd ?_) | refine Q.ct rfl ?_ | refine Q.cf rfl ?_ | (refine GQ.a ?_; refine Q.al (fun b1 => ?_)))
  rename_i bx
  refine swp_loop (σ := Nat) (fun k => [(0, .slice a ovs.length c), (3, .pointer (some ⟨b1, 0, none⟩)), (28, .slice a ovs.length c), (29, .int .i64 ovs.length), (30, .int .i64 k)]) (fun _ => pt b1 (cl o.cells 43) :: L)
    (fun k => k ≤ ovs.length) (fun k => ovs.length - k) 0 ⟨rfl, rfl, rfl, rfl, rfl, trivial⟩ (Ent.refl _) (by omega) ?_
  intro k hk
  by_cases hlt : k < ovs.length
  · obtain ⟨x, hx⟩ := mem_get hlt
    have h5 := h4 x (List.mem_of_getElem? hx)
    have hrs : RdS (pt b1 (cl o.cells 43) :: L) a ovs.length 2 (ovs.flatMap OV.cells) := h.sub
    obtain ⟨b, oo, hia, hr⟩ := RdS.elem (g := OV.cells) (fun _ => rfl) hrs hx rfl
    clear hrs
    rw [hia]
    repeat (first | (refine GQ.y ?_; refine Q.y ?_) | refine Q.go ?_ | (refine GQ.g ?_; refine Q.gq ?_) | (refine GQ.s ?_; refine Q.st ?_) | (refine GQ.g ?_; refine Q.gd ?_) | refine Q.ct rfl ?_ | refine Q.cf rfl ?_ | (refine GQ.a ?_; refine Q.al (fun b1 => ?_)))
    exact ⟨k + 1, ⟨rfl, rfl, rfl, rfl, rfl, trivial⟩, by repeat (first | exact Ent.refl _ | exact Ent.nil | refine Ent.pick ?_ | refine Ent.nilS ?_ | refine Ent.nilM ?_ | refine Ent.drop ?_), by omega, by omega⟩
  · have hke : k = ovs.length := by omega
    subst hke
    repeat (first | (refine GQ.y ?_; refine Q.y ?_) | refine Q.go ?_ | (refine GQ.g ?_; refine Q.gq ?_) | (refine GQ.s ?_; refine Q.st ?_) | (refine GQ.g ?_; refine Q.gd ?_) | refine Q.ct rfl ?_ | refine Q.cf rfl ?_ | (refine GQ.a ?_; refine Q.al (fun b1 => ?_)))
    refine Q.dgo [true] [0, 2, 7, 9, 10] [] [1, 3, 4, 5, 6, 0, 2, 7, 8, 9, 10, 11, 12] ?_
    repeat (first | refine D.endA ?_ | refine Q.dy rfl rfl rfl ?_ | refine Q.dp rfl rfl rfl ?_ | refine D.end_ ?_ | refine Q.endH ?_ | (refine D.e rfl rfl rfl ?_; (first | refine S.gskip1 rfl ?_ | refine S.gskip rfl ?_ | refine S.y (Y.gskipU rfl) ?_); refine opsS_nil ?_; refine N.tn ?_) | refine Q.dT rfl rfl rfl ?_ | refine Q.dF rfl rfl rfl ?_)
    refine D.e rfl rfl rfl ?_
    refine S.bs rfl rfl rfl rfl rfl (fun bz => ?_)
    refine opsS_ent (slO_fold (sz := 2) (m := 0) rfl) ?_
    repeat (first | (refine GQ.y ?_; refine Q.y ?_) | refine Q.go ?_ | (refine GQ.g ?_; refine Q.gq ?_) | (refine GQ.s ?_; refine Q.st ?_))
    repeat (first | refine D.endA ?_ | refine Q.dy rfl rfl rfl ?_ | refine Q.dp rfl rfl rfl ?_ | refine D.end_ ?_ | refine Q.endH ?_ | (refine D.e rfl rfl rfl ?_; (first | refine S.gskip1 rfl ?_ | refine S.gskip rfl ?_ | refine S.y (Y.gskipU rfl) ?_); refine opsS_nil ?_; refine N.tn ?_) | refine Q.dT rfl rfl rfl ?_ | refine Q.dF rfl rfl rfl ?_)
    refine D.e rfl rfl rfl ?_
    refine S.app0 rfl rfl rfl (SrcS.rd h.sub (OV_one _)) (by rfl) (by omega) (by omega) (fun a6 c6 => ?_)
    repeat (first | (refine GQ.y ?_; refine Q.y ?_) | refine Q.go ?_ | (refine GQ.g ?_; refine Q.gq ?_) | (refine GQ.s ?_; refine Q.st ?_))
    repeat (first | refine D.endA ?_ | refine Q.dy rfl rfl rfl ?_ | refine Q.dp rfl rfl rfl ?_ | refine D.end_ ?_ | refine Q.endH ?_ | (refine D.e rfl rfl rfl ?_; (first | refine S.gskip1 rfl ?_ | refine S.gskip rfl ?_ | refine S.y (Y.gskipU rfl) ?_); refine opsS_nil ?_; refine N.tn ?_) | refine Q.dT rfl rfl rfl ?_ | refine Q.dF rfl rfl rfl ?_)
    refine D.e rfl rfl rfl ?_
    refine S.cr rfl (CutVec_spec o.a o.c 100 o.vec _ ho.sub hoc (by omega)) ?_
    rintro _ _ ⟨a', c2, rfl, rfl⟩
    rw [List.take_of_length_le (l := o.vec) (i := 100) (by omega)]
    repeat (first | (refine GQ.y ?_; refine Q.y ?_) | refine Q.go ?_ | (refine GQ.g ?_; refine Q.gq ?_) | (refine GQ.s ?_; refine Q.st ?_) | (refine GQ.g ?_; refine Q.gd ?_) | refine Q.ct rfl ?_ | refine Q.cf rfl ?_ | (refine GQ.a ?_; refine Q.al (fun b1 => ?_)))
    repeat (first | refine D.endA ?_ | refine Q.dy rfl rfl rfl ?_ | refine Q.dp rfl rfl rfl ?_ | refine D.end_ ?_ | refine Q.endH ?_ | (refine D.e rfl rfl rfl ?_; (first | refine S.gskip1 rfl ?_ | refine S.gskip rfl ?_ | refine S.y (Y.gskipU rfl) ?_); refine opsS_nil ?_; refine N.tn ?_) | refine Q.dT rfl rfl rfl ?_ | refine Q.dF rfl rfl rfl ?_)
    refine D.e rfl rfl rfl ?_
    refine S.bs rfl rfl rfl rfl (by repeat (first | exact nz | (apply cz; exact rfl) | exact rfl)) (fun b8 => ?_)
    repeat (first | (refine GQ.y ?_; refine Q.y ?_) | refine Q.go ?_ | (refine GQ.g ?_; refine Q.gq ?_) | (refine GQ.s ?_; refine Q.st ?_))
    repeat (first | refine D.endA ?_ | refine Q.dy rfl rfl rfl ?_ | refine Q.dp rfl rfl rfl ?_ | refine D.end_ ?_ | refine Q.endH ?_ | (refine D.e rfl rfl rfl ?_; (first | refine S.gskip1 rfl ?_ | refine S.gskip rfl ?_ | refine S.y (Y.gskipU rfl) ?_); refine opsS_nil ?_; refine N.tn ?_) | refine Q.dT rfl rfl rfl ?_ | refine Q.dF rfl rfl rfl ?_)
    refine D.e rfl rfl rfl ?_
    refine S.app rfl rfl (SrcS.sl RdC.row (by rfl) (by rfl)) (by rfl) (by omega) (by omega) (fun a7 c7 => ?_)
    repeat (first | (refine GQ.y ?_; refine Q.y ?_) | refine Q.go ?_ | (refine GQ.g ?_; refine Q.gq ?_) | (refine GQ.s ?_; refine Q.st ?_))
    repeat (first | refine D.endA ?_ | refine Q.dy rfl rfl rfl ?_ | refine Q.dp rfl rfl rfl ?_ | refine D.end_ ?_ | refine Q.endH ?_ | (refine D.e rfl rfl rfl ?_; (first | refine S.gskip1 rfl ?_ | refine S.gskip rfl ?_ | refine S.y (Y.gskipU rfl) ?_); refine opsS_nil ?_; refine N.tn ?_) | refine Q.dT rfl rfl rfl ?_ | refine Q.dF rfl rfl rfl ?_)
    repeat (first | (refine GQ.y ?_; refine Q.y ?_) | refine Q.go ?_ | (refine GQ.g ?_; refine Q.gq ?_) | (refine GQ.s ?_; refine Q.st ?_) | (refine GQ.g ?_; refine Q.gd ?_) | refine Q.ct rfl ?_ | refine Q.cf rfl ?_ | (refine GQ.a ?_; refine Q.al (fun b1 => ?_)))
    exact N.r2 (RV.tmp rfl (RV.tmp rfl RV.nil)) (by repeat (first | exact Ent.refl _ | exact Ent.nil | refine Ent.pick ?_ | refine Ent.nilS ?_ | refine Ent.nilM ?_ | refine Ent.drop ?_)) ⟨a7, c7, a', c2, rfl, rfl⟩
def insE (es : List EV) (nw : EV) : List EV := es.filter (fun e => decide (e.id < nw.id)) ++ nw :: es.filter (fun e => decide (nw.id < e.id))
theorem insE_none {es : List EV} {nw : EV} (h : ∀ e ∈ es, e.id < nw.id) : insE es nw = es ++ [nw] := by
  unfold insE
  rw [List.filter_eq_self.2 (fun e he => by have := h e he; simp; omega), List.filter_eq_nil_iff.2 (fun e he => by have := h e he; simp; omega)]
theorem insE_at {es : List EV} {nw e : EV} (h : ∀ e ∈ es, e.id < nw.id) (he : nw.id = e.id) : insE (es ++ [e]) nw = es ++ [nw] := by
  unfold insE
  have h1 : es.filter (fun e => decide (e.id < nw.id)) = es := List.filter_eq_self.2 (fun e he => by have := h e he; simp; omega)
  have h2 : es.filter (fun e => decide (nw.id < e.id)) = [] := List.filter_eq_nil_iff.2 (fun e he => by have := h e he; simp; omega)
  rw [List.filter_append, List.filter_append, h1, h2]
  simp [List.filter_cons, he]
theorem insE_bef {es : List EV} {nw e : EV} (h : ∀ e ∈ es, e.id < nw.id) (he : nw.id < e.id) : insE (es ++ [e]) nw = es ++ [nw] ++ [e] := by
  unfold insE
  have h1 : es.filter (fun e => decide (e.id < nw.id)) = es := List.filter_eq_self.2 (fun e he => by have := h e he; simp; omega)
  have h2 : es.filter (fun e => decide (nw.id < e.id)) = [] := List.filter_eq_nil_iff.2 (fun e he => by have := h e he; simp; omega)
  rw [List.filter_append, List.filter_append, h1, h2]
  have : ¬ e.id < nw.id := by omega
  simp [List.filter_cons, he, this]
theorem insE_aft {es : List EV} {nw e : EV} (he : nw.id < e.id) : insE (es ++ [e]) nw = insE es nw ++ [e] := by
  unfold insE
  rw [List.filter_append, List.filter_append]
  have : ¬ e.id < nw.id := by omega
  simp [List.filter_cons, he, this]
set_option maxHeartbeats 2000000 in
theorem RSet_spec (p : Nat) (dim : Int) (a : Option Addr) (es : List EV) (c : Nat) (a' : Option Addr) (is : List IV) (c' : Nat) (mark : Int) (nw : EV) (M : Nat → Option Obj) (A : List HP) (h : SlM M a es.length 2 (es.flatMap EV.cells)) (hn : es.length ≤ 1000000) (hs : (es.map (·.id)).Pairwise (· < ·)) (hv : 0 < nw.vs.length) :
    CallsS Tryz.prog 24 [ptrV p, .int .u64 nw.id, .slice nw.a nw.vs.length nw.c] (rP p dim a es c a' is c' mark :: roM M :: A)
      (fun v L' => ∃ a2 c2, v = .tuple #[] ∧ L' = slO 37 2 a2 (insE es nw).length c2 ((insE es nw).flatMap EV.cells) :: rP p dim a2 (insE es nw) c2 a' is c' mark :: roM M :: A) := by
  refine CallsS.of_body Tryz.func24 rfl rfl rfl ?_
  repeat (first | (refine GQ.y ?_; refine Q.y ?_) | refine Q.go ?_ | (refine GQ.g ?_; refine Q.gq ?_) | (refine GQ.s ?_; refine Q.st ?_) | (refine GQ.g ?_; refine Q.gd ?_) | refine Q.ct rfl ?_ | refine Q.cf rfl ?_ | (refine GQ.a ?_; refine Q.al (fun b1 => ?_)))
  refine swp_cutB (σ := Option Addr × Nat × List EV × Bool) (fun u => [(0, ptrV p), (1, .int .u64 nw.id), (2, .slice nw.a nw.vs.length nw.c), (6, .slice u.1 u.2.2.1.length u.2.1), (7, .bool u.2.2.2)])
    (fun u => slO 37 2 u.1 u.2.2.1.length u.2.1 (u.2.2.1.flatMap EV.cells) :: rP p dim a es c a' is c' mark :: roM M :: A) (fun u => (u.2.2.2 = false ∧ u.2.2.1 = es ∧ ∀ e ∈ es, e.id < nw.id) ∨ (u.2.2.2 = true ∧ u.2.2.1 = insE es nw)) ?_ ?_
  · refine swp_loop (σ := Nat × Option Addr × Nat × List EV × Bool) (fun u => [(0, ptrV p), (1, .int .u64 nw.id), (2, .slice nw.a nw.vs.length nw.c), (16, .slice a es.length c), (17, .int .i64 es.length), (6, .slice u.2.1 u.2.2.2.1.length u.2.2.1), (7, .bool u.2.2.2.2), (18, .int .i64 u.1)])
      (fun u => slO 37 2 u.2.1 u.2.2.2.1.length u.2.2.1 (u.2.2.2.1.flatMap EV.cells) :: rP p dim a es c a' is c' mark :: roM M :: A)
      (fun u => u.1 ≤ es.length ∧ u.2.2.2.1.length ≤ u.1 + 1 ∧ ((u.2.2.2.2 = false ∧ u.2.2.2.1 = es.take u.1 ∧ ∀ e ∈ es.take u.1, e.id < nw.id) ∨ (u.2.2.2.2 = true ∧ u.2.2.2.1 = insE (es.take u.1) nw ∧ ∃ e ∈ es.take u.1, nw.id ≤ e.id))) (fun u => es.length - u.1) (0, none, 0, [], false) ⟨rfl, rfl, rfl, rfl, rfl, rfl, congrArg some (congrArg Value.bool (decide_eq_false (by omega))), rfl, trivial⟩ ?_ ⟨by omega, by simp, .inl ⟨rfl, by simp, by simp⟩⟩ ?_
    · exact slO_nil
    rintro ⟨k, a3, c3, us, pl⟩ ⟨hk, hul, hinv⟩
    dsimp only at hk hul hinv ⊢
    by_cases hlt : k < es.length
    · obtain ⟨e, he⟩ := mem_get hlt
      have hrs : RdS (slO 37 2 a3 us.length c3 (us.flatMap EV.cells) :: rP p dim a es c a' is c' mark :: roM M :: A) a es.length 2 (es.flatMap EV.cells) := h.rd
      obtain ⟨b, oo, hia, hr⟩ := RdS.elem (g := EV.cells) (fun _ => rfl) hrs he rfl
      clear hrs
      rw [hia] at hr ⊢
      have hsrt : ∀ u ∈ es.take k, u.id < e.id := fun u hu => by
        have h2 := hs
        rw [← List.take_append_drop k es, List.map_append, List.pairwise_append] at h2
        have hd : e ∈ es.drop k := by
          rw [List.drop_eq_getElem_cons hlt]
          have := List.getElem?_eq_getElem hlt
          rw [he] at this
          rw [← Option.some.inj this]; simp
        exact h2.2.2 u.id (List.mem_map_of_mem hu) e.id (List.mem_map_of_mem hd)
      rcases hinv with ⟨rfl, hus, hall⟩ | ⟨rfl, hus, hex⟩
      · have hne : es.take k ++ [e] = es.take (k + 1) := (take_snoc he).symm
        by_cases c1 : nw.id ≤ e.id
        · by_cases c2 : e.id = nw.id
          · repeat (first | (refine GQ.y ?_; refine Q.y ?_) | refine Q.go ?_ | (refine GQ.g ?_; refine Q.gq ?_) | (refine GQ.s ?_; refine Q.st ?_) | (refine GQ.g ?_; refine Q.gd ?_) | refine Q.ct rfl ?_ | refine Q.cf rfl ?_ | (refine GQ.a ?_; refine Q.al (fun b1 => ?_)))
            refine S.app rfl rfl (SrcS.sl RdC.row (by rfl) (by rfl)) (by rfl) (by omega) (by omega) (fun a7 c7 => ?_)
            repeat (first | (refine GQ.y ?_; refine Q.y ?_) | refine Q.go ?_ | (refine GQ.g ?_; refine Q.gq ?_) | (refine GQ.s ?_; refine Q.st ?_) | (refine GQ.g ?_; refine Q.gd ?_) | refine Q.ct rfl ?_ | refine Q.cf rfl ?_ | (refine GQ.a ?_; refine Q.al (fun b1 => ?_)))
            refine ⟨(k + 1, a7, c7, us ++ [nw], true), ⟨rfl, rfl, rfl, rfl, rfl, congrArg some (by simp), rfl, rfl, trivial⟩, ?_, ⟨by dsimp only; omega, by simp; omega, .inr ⟨rfl, ?_, e, by rw [← hne]; simp, c1⟩⟩, by dsimp only; omega⟩
            · dsimp only
              rw [len_snoc, flat_snoc]
              repeat (first | exact Ent.refl _ | exact Ent.nil | refine Ent.pick ?_ | refine Ent.nilS ?_ | refine Ent.nilM ?_ | refine Ent.drop ?_)
            · dsimp only
              rw [← hne, hus, insE_at hall c2.symm]
          · repeat (first | (refine GQ.y ?_; refine Q.y ?_) | refine Q.go ?_ | (refine GQ.g ?_; refine Q.gq ?_) | (refine GQ.s ?_; refine Q.st ?_) | (refine GQ.g ?_; refine Q.gd ?_) | refine Q.ct rfl ?_ | refine Q.cf rfl ?_ | (refine GQ.a ?_; refine Q.al (fun b1 => ?_)))
            refine S.app rfl rfl (SrcS.sl RdC.row (by rfl) (by rfl)) (by rfl) (by omega) (by omega) (fun a7 c7 => ?_)
            repeat (first | (refine GQ.y ?_; refine Q.y ?_) | refine Q.go ?_ | (refine GQ.g ?_; refine Q.gq ?_) | (refine GQ.s ?_; refine Q.st ?_) | (refine GQ.g ?_; refine Q.gd ?_) | refine Q.ct rfl ?_ | refine Q.cf rfl ?_ | (refine GQ.a ?_; refine Q.al (fun b1 => ?_)))
            refine S.app rfl rfl (SrcS.sl RdC.row (by rfl) (by rfl)) (by rfl) (by omega) (by omega) (fun a8 c8 => ?_)
            repeat (first | (refine GQ.y ?_; refine Q.y ?_) | refine Q.go ?_ | (refine GQ.g ?_; refine Q.gq ?_) | (refine GQ.s ?_; refine Q.st ?_) | (refine GQ.g ?_; refine Q.gd ?_) | refine Q.ct rfl ?_ | refine Q.cf rfl ?_ | (refine GQ.a ?_; refine Q.al (fun b1 => ?_)))
            refine ⟨(k + 1, a8, c8, us ++ [nw] ++ [e], true), ⟨rfl, rfl, rfl, rfl, rfl, congrArg some (by simp), rfl, rfl, trivial⟩, ?_, ⟨by dsimp only; omega, ?_, .inr ⟨rfl, ?_, e, by rw [← hne]; simp, c1⟩⟩, by dsimp only; omega⟩
            · dsimp only
              rw [len_snoc, flat_snoc, len_snoc, flat_snoc]
              repeat (first | exact Ent.refl _ | exact Ent.nil | refine Ent.pick ?_ | refine Ent.nilS ?_ | refine Ent.nilM ?_ | refine Ent.drop ?_)
            · dsimp only
              have : us.length = k := by rw [hus, List.length_take]; omega
              simp; omega
            · dsimp only
              rw [← hne, hus, insE_bef hall (by omega)]
        · repeat (first | (refine GQ.y ?_; refine Q.y ?_) | refine Q.go ?_ | (refine GQ.g ?_; refine Q.gq ?_) | (refine GQ.s ?_; refine Q.st ?_) | (refine GQ.g ?_; refine Q.gd ?_) | refine Q.ct rfl ?_ | refine Q.cf rfl ?_ | (refine GQ.a ?_; refine Q.al (fun b1 => ?_)))
          refine S.app rfl rfl (SrcS.sl RdC.row (by rfl) (by rfl)) (by rfl) (by omega) (by omega) (fun a7 c7 => ?_)
          repeat (first | (refine GQ.y ?_; refine Q.y ?_) | refine Q.go ?_ | (refine GQ.g ?_; refine Q.gq ?_) | (refine GQ.s ?_; refine Q.st ?_) | (refine GQ.g ?_; refine Q.gd ?_) | refine Q.ct rfl ?_ | refine Q.cf rfl ?_ | (refine GQ.a ?_; refine Q.al (fun b1 => ?_)))
          refine ⟨(k + 1, a7, c7, us ++ [e], false), ⟨rfl, rfl, rfl, rfl, rfl, congrArg some (by simp), rfl, rfl, trivial⟩, ?_, ⟨by dsimp only; omega, by simp; omega, .inl ⟨rfl, ?_, ?_⟩⟩, by dsimp only; omega⟩
          · dsimp only
            rw [len_snoc, flat_snoc]
            repeat (first | exact Ent.refl _ | exact Ent.nil | refine Ent.pick ?_ | refine Ent.nilS ?_ | refine Ent.nilM ?_ | refine Ent.drop ?_)
          · dsimp only
            rw [← hne, hus]
          · dsimp only
            rw [← hne]
            intro u hu
            rcases List.mem_append.1 hu with hu | hu
            · exact hall u hu
            · obtain rfl := List.mem_singleton.1 hu
              omega
      · obtain ⟨w, hw, hwi⟩ := hex
        have h5 := hsrt w hw
        have c2 : e.id ≠ nw.id := by omega
        have hne : es.take k ++ [e] = es.take (k + 1) := (take_snoc he).symm
        repeat (first | (refine GQ.y ?_; refine Q.y ?_) | refine Q.go ?_ | (refine GQ.g ?_; refine Q.gq ?_) | (refine GQ.s ?_; refine Q.st ?_) | (refine GQ.g ?_; refine Q.gd ?_) | refine Q.ct rfl ?_ | refine Q.cf rfl ?_ | (refine GQ.a ?_; refine Q.al (fun b1 => ?_)))
        refine S.app rfl rfl (SrcS.sl RdC.row (by rfl) (by rfl)) (by rfl) (by omega) (by omega) (fun a7 c7 => ?_)
        repeat (first | (refine GQ.y ?_; refine Q.y ?_) | refine Q.go ?_ | (refine GQ.g ?_; refine Q.gq ?_) | (refine GQ.s ?_; refine Q.st ?_) | (refine GQ.g ?_; refine Q.gd ?_) | refine Q.ct rfl ?_ | refine Q.cf rfl ?_ | (refine GQ.a ?_; refine Q.al (fun b1 => ?_)))
        refine ⟨(k + 1, a7, c7, us ++ [e], true), ⟨rfl, rfl, rfl, rfl, rfl, congrArg some (by simp), rfl, rfl, trivial⟩, ?_, ⟨by dsimp only; omega, by simp; omega, .inr ⟨rfl, ?_, w, by rw [← hne]; exact List.mem_append_left _ hw, hwi⟩⟩, by dsimp only; omega⟩
        · dsimp only
          rw [len_snoc, flat_snoc]
          repeat (first | exact Ent.refl _ | exact Ent.nil | refine Ent.pick ?_ | refine Ent.nilS ?_ | refine Ent.nilM ?_ | refine Ent.drop ?_)
        · dsimp only
          rw [← hne, hus, insE_aft (by omega)]
    · have hke : k = es.length := by omega
      subst hke
      rw [List.take_length] at hinv
      repeat (first | (refine GQ.y ?_; refine Q.y ?_) | refine Q.go ?_ | (refine GQ.g ?_; refine Q.gq ?_) | (refine GQ.s ?_; refine Q.st ?_) | (refine GQ.g ?_; refine Q.gd ?_) | refine Q.ct rfl ?_ | refine Q.cf rfl ?_ | (refine GQ.a ?_; refine Q.al (fun b1 => ?_)))
      refine ⟨(a3, c3, us, pl), ⟨rfl, rfl, rfl, rfl, rfl, trivial⟩, Ent.refl _, ?_⟩
      rcases hinv with ⟨h1, h2, h3⟩ | ⟨h1, h2, h3⟩
      · exact .inl ⟨h1, h2, h3⟩
      · exact .inr ⟨h1, h2⟩
  rintro ⟨a3, c3, us, pl⟩ hinv
  dsimp only at hinv ⊢
  rcases hinv with ⟨rfl, rfl, hall⟩ | ⟨rfl, hus⟩
  · repeat (first | (refine GQ.y ?_; refine Q.y ?_) | refine Q.go ?_ | (refine GQ.g ?_; refine Q.gq ?_) | (refine GQ.s ?_; refine Q.st ?_) | (refine GQ.g ?_; refine Q.gd ?_) | refine Q.ct rfl ?_ | refine Q.cf rfl ?_ | (refine GQ.a ?_; refine Q.al (fun b1 => ?_)))
    refine S.app rfl rfl (SrcS.sl RdC.row (by rfl) (by rfl)) (by rfl) (by omega) (by omega) (fun a7 c7 => ?_)
    repeat (first | (refine GQ.y ?_; refine Q.y ?_) | refine Q.go ?_ | (refine GQ.g ?_; refine Q.gq ?_) | (refine GQ.s ?_; refine Q.st ?_) | (refine GQ.g ?_; refine Q.gd ?_) | refine Q.ct rfl ?_ | refine Q.cf rfl ?_ | (refine GQ.a ?_; refine Q.al (fun b1 => ?_)))
    refine N.n0 RV.nil (Ent.drop (Ent.refl _)) ⟨a7, c7, rfl, ?_⟩
    unfold rP
    rw [insE_none hall, len_snoc, flat_snoc]
  · subst hus
    repeat (first | (refine GQ.y ?_; refine Q.y ?_) | refine Q.go ?_ | (refine GQ.g ?_; refine Q.gq ?_) | (refine GQ.s ?_; refine Q.st ?_) | (refine GQ.g ?_; refine Q.gd ?_) | refine Q.ct rfl ?_ | refine Q.cf rfl ?_ | (refine GQ.a ?_; refine Q.al (fun b1 => ?_)))
    exact N.n0 RV.nil (Ent.refl _) ⟨a3, c3, rfl, rfl⟩
end Go.Proofs.YtieejgbjgcbbjaaGreat
/- The ref's vault: Apply. No condition. -/
namespace Go.Proofs.YtieejgbjgcbbjaaGreat
open Go Go.SX
attribute [local irreducible] swp opsS thenS blockS retS CallsS St Ent YieldS anyS drawS
theorem keys_nodup {κ α : Type} [DecidableEq κ] {m : List (κ × α)} (h : keysOK m) : m.Nodup := by
  unfold keysOK at h
  rw [List.nodup_iff_pairwise_ne, List.pairwise_map] at h
  rw [List.nodup_iff_pairwise_ne]
  exact h.imp fun h1 h2 => h1 (by rw [h2])
theorem keys_of_lt {m : List (Int × VL)} (h : (m.map (·.1)).Pairwise (· < ·)) : keysOK m := by
  unfold keysOK
  rw [List.nodup_iff_pairwise_ne]
  exact h.imp fun h1 h2 => by omega
theorem insE_sorted {es : List EV} {nw : EV} (hs : (es.map (·.id)).Pairwise (· < ·)) : ((insE es nw).map (·.id)).Pairwise (· < ·) := by
  unfold insE
  rw [List.map_append, List.map_cons, List.pairwise_append]
  refine ⟨pw_filter hs _, List.pairwise_cons.2 ⟨fun y hy => ?_, pw_filter hs _⟩, fun x hx y hy => ?_⟩
  · obtain ⟨u, hu, rfl⟩ := List.mem_map.1 hy
    have h1 := (List.mem_filter.1 hu).2
    simpa using h1
  · obtain ⟨u, hu, rfl⟩ := List.mem_map.1 hx
    have h1 := (List.mem_filter.1 hu).2
    simp at h1
    rcases List.mem_cons.1 hy with rfl | hy
    · exact h1
    · obtain ⟨w, hw, rfl⟩ := List.mem_map.1 hy
      have h3 := (List.mem_filter.1 hw).2
      simp at h3; omega
theorem insE_mem {es : List EV} {nw e : EV} (h : e ∈ insE es nw) : e = nw ∨ e ∈ es ∧ e.id ≠ nw.id := by
  unfold insE at h
  rcases List.mem_append.1 h with h | h
  · have h1 := List.mem_filter.1 h
    have h2 := h1.2
    simp at h2
    exact .inr ⟨h1.1, by omega⟩
  rcases List.mem_cons.1 h with h | h
  · exact .inl h
  · have h1 := List.mem_filter.1 h
    have h2 := h1.2
    simp at h2
    exact .inr ⟨h1.1, by omega⟩
theorem insE_mem' {es : List EV} {nw e : EV} (h : e = nw ∨ e ∈ es ∧ e.id ≠ nw.id) : e ∈ insE es nw := by
  unfold insE
  rcases h with rfl | ⟨h1, h2⟩
  · simp
  · by_cases h3 : e.id < nw.id
    · exact List.mem_append_left _ (List.mem_filter.2 ⟨h1, by simpa using h3⟩)
    · refine List.mem_append_right _ (List.mem_cons_of_mem _ (List.mem_filter.2 ⟨h1, ?_⟩))
      simp; omega
theorem map_id_key {es : List EV} : (es.map EV.abs).map (·.1) = es.map (·.id) := by rw [List.map_map]; rfl
theorem insE_perm {es : List EV} {nw : EV} {ch : List (Int × VL)} (hp : (es.map EV.abs).Perm ch) (hk : keysOK ch) (hs : (es.map (·.id)).Pairwise (· < ·)) : ((insE es nw).map EV.abs).Perm (putL ch nw.id (nw.vs.map OV.abs)) := by
  have k1 : keysOK ((insE es nw).map EV.abs) := keys_of_lt (by rw [map_id_key]; exact insE_sorted hs)
  have k2 := putL_ok hk nw.id (nw.vs.map OV.abs)
  rw [List.perm_ext_iff_of_nodup (keys_nodup k1) (keys_nodup k2)]
  rintro ⟨x, w⟩
  rw [← lkL_iff k2, lkL_put hk]
  constructor
  · intro h
    obtain ⟨e, he, h2⟩ := List.mem_map.1 h
    clear h
    rcases insE_mem he with rfl | ⟨he1, he2⟩
    · have hx : x = e.id := (congrArg Prod.fst h2).symm
      have hx2 : w = e.vs.map OV.abs := (congrArg Prod.snd h2).symm
      rw [if_pos hx, hx2]
    · have hm : (x, w) ∈ ch := hp.mem_iff.1 (by rw [← h2]; exact List.mem_map_of_mem he1)
      have hx : x = e.id := (congrArg Prod.fst h2).symm
      rw [if_neg (by rw [hx]; exact he2)]
      exact (lkL_iff hk).2 hm
  · intro h
    by_cases hx : x = nw.id
    · rw [if_pos hx] at h
      cases h
      rw [hx]
      exact List.mem_map_of_mem (f := EV.abs) (insE_mem' (.inl rfl))
    · rw [if_neg hx] at h
      obtain ⟨e, he, h2⟩ := List.mem_map.1 (hp.mem_iff.2 ((lkL_iff hk).1 h))
      rw [← h2]
      refine List.mem_map_of_mem (f := EV.abs) (insE_mem' (.inr ⟨he, ?_⟩))
      have : x = e.id := (congrArg Prod.fst h2).symm
      rw [← this]; exact hx
theorem ROK.put {M : Nat → Option Obj} {st : VS} {a a' : Option Addr} {c c' : Nat} {es : List EV} {is : List IV} (h : ROK M st a c es a' c' is) {M2 : Nat → Option Obj} (hl : leM M M2) {a2 : Option Addr} {c2 : Nat} {nw : EV} (hnw : okE M2 nw)
    (hs : SlM M2 a2 (insE es nw).length 2 ((insE es nw).flatMap EV.cells)) (hc : (insE es nw).length ≤ c2) : ROK M2 { st with ch := putL st.ch nw.id (nw.vs.map OV.abs) } a2 c2 (insE es nw) a' c' is :=
  ⟨insE_perm h.ch h.k1 h.cs, insE_sorted h.cs, h.its, h.ss, fun e he => by
    rcases insE_mem he with rfl | ⟨he, _⟩
    · exact hnw
    · exact (h.oe e he).mono hl, fun i hi => (h.oi i hi).mono hl, hs, h.sI.mono hl, hc, h.cI, putL_ok h.k1 _ _, h.k2, h.oc⟩
theorem sorted_last {vs : VL} (h : sortedV vs) : ∀ v ∈ vs, v.1 ≤ lastS vs := by
  intro v hv
  unfold lastS
  cases hg : vs.getLast? with
  | none => rw [List.getLast?_eq_none_iff] at hg; subst hg; cases hv
  | some l =>
    rw [List.getLast?_eq_some_iff] at hg
    obtain ⟨p, rfl⟩ := hg
    unfold sortedV at h
    rw [List.map_append, List.pairwise_append] at h
    rcases List.mem_append.1 hv with hv | hv
    · have := h.2.2 v.1 (List.mem_map_of_mem hv) l.1 (by simp)
      simp; omega
    · obtain rfl := List.mem_singleton.1 hv
      simp
theorem ROK.chain {M : Nat → Option Obj} {st : VS} {a a' : Option Addr} {c c' : Nat} {es : List EV} {is : List IV} (h : ROK M st a c es a' c' is) {e : EV} (he : e ∈ es) : lkL st.ch e.id = some (e.vs.map OV.abs) := by
  rw [← lkL_perm h.k1 h.ch]
  exact (lkL_iff (keys_perm h.k1 h.ch)).2 (List.mem_map_of_mem (f := EV.abs) he)
theorem ROK.noC {M : Nat → Option Obj} {st : VS} {a a' : Option Addr} {c c' : Nat} {es : List EV} {is : List IV} (h : ROK M st a c es a' c' is) {id : Int} (hn : ∀ e ∈ es, e.id ≠ id) : lkL st.ch id = none := by
  rw [← lkL_perm h.k1 h.ch]
  exact lkL_none fun u hu => by obtain ⟨w, hw, rfl⟩ := List.mem_map.1 hu; exact hn w hw
end Go.Proofs.YtieejgbjgcbbjaaGreat
