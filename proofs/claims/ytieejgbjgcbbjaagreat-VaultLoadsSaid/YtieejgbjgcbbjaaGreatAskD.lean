/- The ref's vault: At, Blocked, Get, Scan. No condition. -/
import Derived.Test.YtieejgbjgcbbjaaGreatVtV
set_option linter.unusedVariables false
set_option linter.unusedSimpArgs false
namespace Go.Proofs.YtieejgbjgcbbjaaGreat
open Go Go.SX
attribute [local irreducible] swp opsS thenS blockS retS CallsS St Ent YieldS anyS drawS
theorem opsS_rf (p : Nat) {n : Nat} {ops rest : List Oper} {Q : Post} {f : Env} {L L0 : List HP} {st : VS} [hp : PickR p L st L0] (h : ∀ M a c es a' c' is, ROK M st a c es a' c' is → opsS Tryz.prog n ops rest Q f (rP p st.dim a es c a' is c' st.mark :: roM M :: L0)) : opsS Tryz.prog n ops rest Q f L :=
  opsS_ent hp.ent (opsS_ex fun x => opsS_all (opsS_pure fun hx => h x.M x.a x.c x.es x.a' x.c' x.is hx))
theorem filt_take {s : Int} : ∀ {vs : VL}, sortedV vs → (vs.filter fun v => decide (v.1 ≤ s)) = vs.take (aftN vs s)
  | [], _ => by simp
  | v :: vs, hs => by
    have hs1 : sortedV vs := by
      unfold sortedV at hs ⊢
      rw [List.map_cons, List.pairwise_cons] at hs
      exact hs.2
    have hlt : ∀ w ∈ vs, v.1 < w.1 := fun w hw => by
      unfold sortedV at hs
      rw [List.map_cons, List.pairwise_cons] at hs
      exact hs.1 _ (List.mem_map_of_mem hw)
    by_cases h : v.1 ≤ s
    · have e : aftN (v :: vs) s = aftN vs s + 1 := by unfold aftN; simp [h]
      rw [e, List.take_succ_cons, ← filt_take hs1, List.filter_cons_of_pos (by simpa using h)]
    · have e0 : ∀ w ∈ vs, ¬ (decide (w.1 ≤ s)) = true := fun w hw => by
        have := hlt w hw
        simp; omega
      have e : aftN (v :: vs) s = 0 := by
        unfold aftN
        rw [List.filter_cons_of_neg (by simpa using h), List.filter_eq_nil_iff.2 e0]; rfl
      rw [e, List.filter_cons_of_neg (by simpa using h), List.filter_eq_nil_iff.2 e0]; rfl
theorem at_last {vs : VL} {s : Int} (hs : sortedV vs) : atV vs s = (((vs.filter fun v => decide (v.1 ≤ s)).getLast?).map (·.2)).getD [] := by
  rw [filt_take hs, List.getLast?_eq_getElem?, List.length_take, Nat.min_eq_left (aft_le vs s)]
  unfold atV
  by_cases h0 : aftN vs s = 0
  · rw [if_pos h0, h0]; simp
  · rw [if_neg h0, List.getElem?_take, if_pos (by omega)]
def cvO : Option OV → Value
  | none => .slice none 0 0
  | some o => .slice o.a o.vec.length o.c
theorem RAt_spec (a : Option Addr) (c : Nat) (vs : List OV) (s : Int) (A : List HP) (h : RdS A a vs.length 2 (vs.flatMap OV.cells)) (hn : vs.length ≤ 1000000) (hs : sortedV (vs.map OV.abs)) :
    CallsS Tryz.prog 66 [.slice a vs.length c, .int .u64 s] A
      (fun r L' => (∃ u : Option OV, r = cvO u ∧ (∀ o, u = some o → o ∈ vs) ∧ atV (vs.map OV.abs) s = (u.map (·.vec)).getD []) ∧ L' = A) := by
  refine CallsS.of_body Tryz.func66 rfl rfl rfl ?_
  repeat (first | (refine GQ.y ?_; refine Q.y ?_) | refine Q.go ?_ | (refine GQ.g ?_; refine Q.gq ?_) | (refine GQ.s ?_; refine Q.st ?_) | (refine GQ.g ?_; refine Q.gd ?_) | refine Q.ct rfl ?_ | refine Q.cf rfl ?_ | (refine GQ.a ?_; refine Q.al (fun b1 => ?_)))
  refine swp_cutB (σ := Option OV) (fun u => [(5, cvO u)]) (fun _ => A) (fun u => u = (vs.filter fun o => decide (o.id ≤ s)).getLast?) ?_ ?_
  · refine swp_loop (σ := Nat × Option OV) (fun u => [(1, .int .u64 s), (8, .slice a vs.length c), (9, .int .i64 vs.length), (5, cvO u.2), (10, .int .i64 u.1)]) (fun _ => A)
      (fun u => u.1 ≤ vs.length ∧ u.2 = ((vs.take u.1).filter fun o => decide (o.id ≤ s)).getLast?) (fun u => vs.length - u.1) (0, none) ⟨rfl, rfl, rfl, rfl, rfl, trivial⟩ (Ent.refl _) ⟨by omega, rfl⟩ ?_
    rintro ⟨k, u⟩ ⟨hk, hu⟩
    dsimp only at hk hu ⊢
    by_cases hlt : k < vs.length
    · obtain ⟨o, ho⟩ := mem_get hlt
      obtain ⟨b, oo, hia, hr⟩ := RdS.elem (g := OV.cells) (fun _ => rfl) h ho rfl
      rw [hia]
      have htk := take_snoc ho
      by_cases he : o.id ≤ s
      · repeat (first | (refine GQ.y ?_; refine Q.y ?_) | refine Q.go ?_ | (refine GQ.g ?_; refine Q.gq ?_) | (refine GQ.s ?_; refine Q.st ?_) | (refine GQ.g ?_; refine Q.gd ?_) | refine Q.ct rfl ?_ | refine Q.cf rfl ?_ | (refine GQ.a ?_; refine Q.al (fun b1 => ?_)))
        refine ⟨(k + 1, some o), ⟨rfl, rfl, rfl, rfl, rfl, trivial⟩, by repeat (first | exact Ent.refl _ | exact Ent.nil | refine Ent.pick ?_ | refine Ent.nilS ?_ | refine Ent.nilM ?_ | refine Ent.drop ?_), ⟨by dsimp only; omega, ?_⟩, by dsimp only; omega⟩
        dsimp only
        rw [htk, List.filter_append, List.filter_cons_of_pos (by simpa using he)]
        simp
      · repeat (first | (refine GQ.y ?_; refine Q.y ?_) | refine Q.go ?_ | (refine GQ.g ?_; refine Q.gq ?_) | (refine GQ.s ?_; refine Q.st ?_) | (refine GQ.g ?_; refine Q.gd ?_) | refine Q.ct rfl ?_ | refine Q.cf rfl ?_ | (refine GQ.a ?_; refine Q.al (fun b1 => ?_)))
        refine ⟨(k + 1, u), ⟨rfl, rfl, rfl, rfl, rfl, trivial⟩, by repeat (first | exact Ent.refl _ | exact Ent.nil | refine Ent.pick ?_ | refine Ent.nilS ?_ | refine Ent.nilM ?_ | refine Ent.drop ?_), ⟨by dsimp only; omega, ?_⟩, by dsimp only; omega⟩
        dsimp only
        rw [htk, List.filter_append, List.filter_cons_of_neg (by simpa using he), hu]
        simp
    · have hke : k = vs.length := by omega
      subst hke
      rw [List.take_length] at hu
      repeat (first | (refine GQ.y ?_; refine Q.y ?_) | refine Q.go ?_ | (refine GQ.g ?_; refine Q.gq ?_) | (refine GQ.s ?_; refine Q.st ?_) | (refine GQ.g ?_; refine Q.gd ?_) | refine Q.ct rfl ?_ | refine Q.cf rfl ?_ | (refine GQ.a ?_; refine Q.al (fun b1 => ?_)))
      exact ⟨u, ⟨rfl, trivial⟩, Ent.refl _, hu⟩
  intro u hu
  repeat (first | (refine GQ.y ?_; refine Q.y ?_) | refine Q.go ?_ | (refine GQ.g ?_; refine Q.gq ?_) | (refine GQ.s ?_; refine Q.st ?_) | (refine GQ.g ?_; refine Q.gd ?_) | refine Q.ct rfl ?_ | refine Q.cf rfl ?_ | (refine GQ.a ?_; refine Q.al (fun b1 => ?_)))
  refine N.r1 (RV.tmp rfl RV.nil) (Ent.refl _) ⟨⟨u, rfl, fun o ho => ?_, ?_⟩, rfl⟩
  · rw [ho] at hu
    exact (List.mem_filter.1 (List.mem_of_getLast? hu.symm)).1
  · have e : ((vs.map OV.abs).filter fun v => decide (v.1 ≤ s)) = (vs.filter fun o => decide (o.id ≤ s)).map OV.abs := by rw [List.filter_map]; rfl
    rw [at_last hs, e, List.getLast?_map, ← hu]
    cases u <;> rfl
set_option maxHeartbeats 2000000 in
theorem RBlocked_spec (p : Nat) (st : VS) (n : Nat) (M : Nat → Option Obj) (a : Option Addr) (es : List EV) (c : Nat) (a' : Option Addr) (is : List IV) (c' : Nat) (s : Int) (ai : Option Addr) (ci : Nat) (ids : List Int) (A : List HP) (hok : ROK M st a c es a' c' is) (hw : WF st n) (hn : n ≤ 10000) (hi : RdS (rP p st.dim a es c a' is c' st.mark :: roM M :: A) ai ids.length 1 (ids.map U64)) (hil : ids.length ≤ 1000000) :
    CallsS Tryz.prog 37 [ptrV p, .int .u64 s, .slice ai ids.length ci] (rP p st.dim a es c a' is c' st.mark :: roM M :: A) (fun r L' => r = .bool (blockedV st s ids) ∧ L' = rP p st.dim a es c a' is c' st.mark :: roM M :: A) := by
  have hisl : is.length ≤ n := by rw [hok.len.1]; exact hw.il
  have hany : blockedV st s ids = is.any fun i => decide (i.after < s) && (decide (ids.length = 0) || ids.any fun id => holdsV (i.ops.map OV.abs) id) := by
    unfold blockedV
    have h1 : ((is.map IV.abs).any fun i => decide (i.2.1 < s) && (decide (ids.length = 0) || ids.any fun id => holdsV i.2.2 id)) = st.its.any fun i => decide (i.2.1 < s) && (decide (ids.length = 0) || ids.any fun id => holdsV i.2.2 id) := hok.its.any_eq
    rw [← h1, List.any_map]; rfl
  rw [hany]
  refine CallsS.of_body Tryz.func37 rfl rfl rfl ?_
  repeat (first | (refine GQ.y ?_; refine Q.y ?_) | refine Q.go ?_ | (refine GQ.g ?_; refine Q.gq ?_) | (refine GQ.s ?_; refine Q.st ?_) | (refine GQ.g ?_; refine Q.gd ?_) | refine Q.ct rfl ?_ | refine Q.cf rfl ?_ | (refine GQ.a ?_; refine Q.al (fun b1 => ?_)))
  refine swp_cutB (σ := Unit) (fun _ => []) (fun _ => rP p st.dim a es c a' is c' st.mark :: roM M :: A) (fun _ => (is.any fun i => decide (i.after < s) && (decide (ids.length = 0) || ids.any fun id => holdsV (i.ops.map OV.abs) id)) = false) ?_ ?_
  · refine swp_loop (σ := Nat) (fun k => [(1, .int .u64 s), (2, .slice ai ids.length ci), (17, .slice a' is.length c'), (18, .int .i64 is.length), (19, .int .i64 k)]) (fun _ => rP p st.dim a es c a' is c' st.mark :: roM M :: A)
      (fun k => k ≤ is.length ∧ ((is.take k).any fun i => decide (i.after < s) && (decide (ids.length = 0) || ids.any fun id => holdsV (i.ops.map OV.abs) id)) = false) (fun k => is.length - k) 0 ⟨rfl, rfl, rfl, rfl, rfl, trivial⟩ (Ent.refl _) ⟨by omega, by simp⟩ ?_
    rintro k ⟨hk, hno⟩
    by_cases hlt : k < is.length
    · obtain ⟨x, hx⟩ := mem_get hlt
      have hmx : x ∈ is := List.mem_of_getElem? hx
      have hxl : x.ops.length ≤ 16 := by
        have := (hw.io x.abs (hok.its.mem_iff.1 (List.mem_map_of_mem hmx))).1
        simpa using this
      have hrs : RdS (rP p st.dim a es c a' is c' st.mark :: roM M :: A) a' is.length 3 (is.flatMap IV.cells) := hok.sI.rd
      obtain ⟨b, oo, hia, hr⟩ := RdS.elem (g := IV.cells) (fun _ => rfl) hrs hx rfl
      clear hrs
      rw [hia] at hr ⊢
      have htk : ∀ B, (decide (ids.length = 0) || ids.any fun id => holdsV (x.ops.map OV.abs) id) = B → ((is.take (k + 1)).any fun i => decide (i.after < s) && (decide (ids.length = 0) || ids.any fun id => holdsV (i.ops.map OV.abs) id)) = (decide (x.after < s) && B) := fun B hB => by
        rw [take_snoc hx, List.any_append, hno]; simp [← hB]
      repeat (first | (refine GQ.y ?_; refine Q.y ?_) | refine Q.go ?_ | (refine GQ.g ?_; refine Q.gq ?_) | (refine GQ.s ?_; refine Q.st ?_) | (refine GQ.g ?_; refine Q.gd ?_) | refine Q.ct rfl ?_ | refine Q.cf rfl ?_ | (refine GQ.a ?_; refine Q.al (fun b1 => ?_)))
      refine swp_cutB (σ := Bool) (fun u => [(1, .int .u64 s), (2, .slice ai ids.length ci), (8, .pointer (some ⟨b1, 0, none⟩)), (17, .slice (some ⟨b, oo, none⟩) is.length c'), (18, .int .i64 is.length), (19, .int .i64 k), (9, .bool u)]) (fun _ => pt b1 (cl x.cells 50) :: rP p st.dim (a) es c (some ⟨b, oo, none⟩) is c' st.mark :: roM M :: A) (fun u => (decide (ids.length = 0) || ids.any fun id => holdsV (x.ops.map OV.abs) id) = u) ?_ ?_
      · refine swp_loop (σ := Nat) (fun j => [(1, .int .u64 s), (2, .slice ai ids.length ci), (8, .pointer (some ⟨b1, 0, none⟩)), (17, .slice (some ⟨b, oo, none⟩) is.length c'), (18, .int .i64 is.length), (19, .int .i64 k), (26, .slice ai ids.length ci), (27, .int .i64 ids.length), (9, .bool (decide (ids.length = 0) || (ids.take j).any fun id => holdsV (x.ops.map OV.abs) id)), (28, .int .i64 j)]) (fun _ => pt b1 (cl x.cells 50) :: rP p st.dim a es c (some ⟨b, oo, none⟩) is c' st.mark :: roM M :: A)
          (fun j => j ≤ ids.length) (fun j => ids.length - j) 0 ⟨rfl, rfl, rfl, rfl, rfl, rfl, rfl, rfl, congrArg some (congrArg Value.bool (by by_cases h0 : ids.length = 0 <;> simp [h0])), rfl, trivial⟩ (by repeat (first | exact Ent.refl _ | exact Ent.nil | refine Ent.pick ?_ | refine Ent.nilS ?_ | refine Ent.nilM ?_ | refine Ent.drop ?_)) (by omega) ?_
        intro j hj
        by_cases hjl : j < ids.length
        · obtain ⟨y, hy⟩ := mem_get hjl
          have h0 : ¬ ids.length = 0 := by omega
          rw [decide_eq_false h0, Bool.false_or]
          have hrs : RdS (rP p st.dim a es c a' is c' st.mark :: roM M :: A) ai ids.length 1 (ids.flatMap cU) := by rw [flat_U]; exact hi
          obtain ⟨b3, o3, hia3, hr3⟩ := RdS.elem (g := cU) (fun _ => rfl) hrs hy rfl
          clear hrs
          rw [hia] at hr3
          replace hr3 : RdC (pt b1 (cl x.cells 50) :: rP p st.dim a es c (some ⟨b, oo, none⟩) is c' st.mark :: roM M :: A) b3 (o3 + j * 1) (cU y) := RdC.sub hr3
          rw [hia3]
          have hst : (ids.take (j + 1)).any (fun id => holdsV (x.ops.map OV.abs) id) = ((ids.take j).any (fun id => holdsV (x.ops.map OV.abs) id) || holdsV (x.ops.map OV.abs) y) := by rw [take_snoc hy, List.any_append]; simp
          cases hb : (ids.take j).any fun id => holdsV (x.ops.map OV.abs) id with
          | true =>
            repeat (first | (refine GQ.y ?_; refine Q.y ?_) | refine Q.go ?_ | (refine GQ.g ?_; refine Q.gq ?_) | (refine GQ.s ?_; refine Q.st ?_) | (refine GQ.g ?_; refine Q.gd ?_) | refine Q.ct rfl ?_ | refine Q.cf rfl ?_ | (refine GQ.a ?_; refine Q.al (fun b1 => ?_)))
            refine ⟨j + 1, ⟨rfl, rfl, rfl, rfl, rfl, rfl, rfl, rfl, congrArg some (congrArg Value.bool (by rw [hst, hb]; simp [h0])), rfl, trivial⟩, by repeat (first | exact Ent.refl _ | exact Ent.nil | refine Ent.pick ?_ | refine Ent.nilS ?_ | refine Ent.nilM ?_ | refine Ent.drop ?_), by omega, by omega⟩
          | false =>
            repeat (first | (refine GQ.y ?_; refine Q.y ?_) | refine Q.go ?_ | (refine GQ.g ?_; refine Q.gq ?_) | (refine GQ.s ?_; refine Q.st ?_) | (refine GQ.g ?_; refine Q.gd ?_) | refine Q.ct rfl ?_ | refine Q.cf rfl ?_ | (refine GQ.a ?_; refine Q.al (fun b1 => ?_)))
            refine S.cr rfl (RHolds_spec x y _ (hok.oi x hmx).rd (by omega)) ?_
            rintro _ _ ⟨rfl, rfl⟩
            repeat (first | (refine GQ.y ?_; refine Q.y ?_) | refine Q.go ?_ | (refine GQ.g ?_; refine Q.gq ?_) | (refine GQ.s ?_; refine Q.st ?_) | (refine GQ.g ?_; refine Q.gd ?_) | refine Q.ct rfl ?_ | refine Q.cf rfl ?_ | (refine GQ.a ?_; refine Q.al (fun b1 => ?_)))
            refine ⟨j + 1, ⟨rfl, rfl, rfl, rfl, rfl, rfl, rfl, rfl, congrArg some (congrArg Value.bool (by rw [hst, hb]; simp [h0])), rfl, trivial⟩, by repeat (first | exact Ent.refl _ | exact Ent.nil | refine Ent.pick ?_ | refine Ent.nilS ?_ | refine Ent.nilM ?_ | refine Ent.drop ?_), by omega, by omega⟩
        · have hje : j = ids.length := by omega
          subst hje
          rw [List.take_length]
          repeat (first | (refine GQ.y ?_; refine Q.y ?_) | refine Q.go ?_ | (refine GQ.g ?_; refine Q.gq ?_) | (refine GQ.s ?_; refine Q.st ?_) | (refine GQ.g ?_; refine Q.gd ?_) | refine Q.ct rfl ?_ | refine Q.cf rfl ?_ | (refine GQ.a ?_; refine Q.al (fun b1 => ?_)))
          exact ⟨_, ⟨rfl, rfl, rfl, rfl, rfl, rfl, rfl, trivial⟩, by repeat (first | exact Ent.refl _ | exact Ent.nil | refine Ent.pick ?_ | refine Ent.nilS ?_ | refine Ent.nilM ?_ | refine Ent.drop ?_), rfl⟩
      intro u hu
      have htk2 := htk u hu
      have hall : u = true → x.after < s → (is.any fun i => decide (i.after < s) && (decide (ids.length = 0) || ids.any fun id => holdsV (i.ops.map OV.abs) id)) = true := fun h1 h2 => List.any_eq_true.2 ⟨x, hmx, by rw [hu, h1]; simpa using h2⟩
      cases u with
      | false =>
        repeat (first | (refine GQ.y ?_; refine Q.y ?_) | refine Q.go ?_ | (refine GQ.g ?_; refine Q.gq ?_) | (refine GQ.s ?_; refine Q.st ?_) | (refine GQ.g ?_; refine Q.gd ?_) | refine Q.ct rfl ?_ | refine Q.cf rfl ?_ | (refine GQ.a ?_; refine Q.al (fun b1 => ?_)))
        refine ⟨k + 1, ⟨rfl, rfl, rfl, rfl, rfl, trivial⟩, by repeat (first | exact Ent.refl _ | exact Ent.nil | refine Ent.pick ?_ | refine Ent.nilS ?_ | refine Ent.nilM ?_ | refine Ent.drop ?_), ⟨by omega, by rw [htk2, Bool.and_false]⟩, by omega⟩
      | true =>
        by_cases ha : x.after < s
        · rw [hall rfl ha]
          repeat (first | (refine GQ.y ?_; refine Q.y ?_) | refine Q.go ?_ | (refine GQ.g ?_; refine Q.gq ?_) | (refine GQ.s ?_; refine Q.st ?_) | (refine GQ.g ?_; refine Q.gd ?_) | refine Q.ct rfl ?_ | refine Q.cf rfl ?_ | (refine GQ.a ?_; refine Q.al (fun b1 => ?_)))
          exact N.r1 (RV.tmp rfl RV.nil) (by repeat (first | exact Ent.refl _ | exact Ent.nil | refine Ent.pick ?_ | refine Ent.nilS ?_ | refine Ent.nilM ?_ | refine Ent.drop ?_)) ⟨rfl, rfl⟩
        · repeat (first | (refine GQ.y ?_; refine Q.y ?_) | refine Q.go ?_ | (refine GQ.g ?_; refine Q.gq ?_) | (refine GQ.s ?_; refine Q.st ?_) | (refine GQ.g ?_; refine Q.gd ?_) | refine Q.ct rfl ?_ | refine Q.cf rfl ?_ | (refine GQ.a ?_; refine Q.al (fun b1 => ?_)))
          refine ⟨k + 1, ⟨rfl, rfl, rfl, rfl, rfl, trivial⟩, by repeat (first | exact Ent.refl _ | exact Ent.nil | refine Ent.pick ?_ | refine Ent.nilS ?_ | refine Ent.nilM ?_ | refine Ent.drop ?_), ⟨by omega, by rw [htk2, decide_eq_false ha]; rfl⟩, by omega⟩
    · have hke : k = is.length := by omega
      subst hke
      rw [List.take_length] at hno
      repeat (first | (refine GQ.y ?_; refine Q.y ?_) | refine Q.go ?_ | (refine GQ.g ?_; refine Q.gq ?_) | (refine GQ.s ?_; refine Q.st ?_) | (refine GQ.g ?_; refine Q.gd ?_) | refine Q.ct rfl ?_ | refine Q.cf rfl ?_ | (refine GQ.a ?_; refine Q.al (fun b1 => ?_)))
      exact ⟨(), trivial, by repeat (first | exact Ent.refl _ | exact Ent.nil | refine Ent.pick ?_ | refine Ent.nilS ?_ | refine Ent.nilM ?_ | refine Ent.drop ?_), hno⟩
  intro _ hno
  rw [hno]
  repeat (first | (refine GQ.y ?_; refine Q.y ?_) | refine Q.go ?_ | (refine GQ.g ?_; refine Q.gq ?_) | (refine GQ.s ?_; refine Q.st ?_) | (refine GQ.g ?_; refine Q.gd ?_) | refine Q.ct rfl ?_ | refine Q.cf rfl ?_ | (refine GQ.a ?_; refine Q.al (fun b1 => ?_)))
  exact N.r1 (RV.tmp rfl RV.nil) (Ent.refl _) ⟨rfl, rfl⟩
end Go.Proofs.YtieejgbjgcbbjaaGreat
/- The vault and the ref's: Get, Scan; SameHits, Mark. No condition. -/
namespace Go.Proofs.YtieejgbjgcbbjaaGreat
open Go Go.SX
attribute [local irreducible] swp opsS thenS blockS retS CallsS St Ent YieldS anyS drawS
abbrev cH (o : OV) : List Value := [.int .u64 o.id, .int .u64 0, .slice o.a o.vec.length o.c]
def hitV (ch : List (Int × VL)) (s id : Int) : VL := if 0 < (atV (chV ch id) s).length then [(id, atV (chV ch id) s)] else []
def scanV (st : VS) (s : Int) : VL := if openE st s [] ≠ 0 then [] else (swIds st.ch).flatMap (hitV st.ch s)
theorem ROK.esl {M : Nat → Option Obj} {st : VS} {n : Nat} {a a' : Option Addr} {c c' : Nat} {es : List EV} {is : List IV} (h : ROK M st a c es a' c' is) (hw : WF st n) {e : EV} (he : e ∈ es) : sortedV (e.vs.map OV.abs) ∧ e.vs.length ≤ n ∧ ∀ o ∈ e.vs, o.vec.length ≤ 8 := by
  have := hw.co _ (lk_memL (h.chain he))
  refine ⟨this.1, by simpa using this.2.1, fun o ho => this.2.2 o.abs (List.mem_map_of_mem ho)⟩
theorem ROK.chv {M : Nat → Option Obj} {st : VS} {a a' : Option Addr} {c c' : Nat} {es : List EV} {is : List IV} (h : ROK M st a c es a' c' is) {e : EV} (he : e ∈ es) : chV st.ch e.id = e.vs.map OV.abs := by unfold chV; rw [h.chain he]; rfl
set_option maxHeartbeats 1000000 in
theorem RGet_spec (p : Nat) (st : VS) (n : Nat) (M : Nat → Option Obj) (a : Option Addr) (es : List EV) (c : Nat) (a' : Option Addr) (is : List IV) (c' : Nat) (id s : Int) (A : List HP) (hok : ROK M st a c es a' c' is) (hw : WF st n) (hn : n ≤ 10000) :
    CallsS Tryz.prog 32 [ptrV p, .int .u64 id, .int .u64 s] (rP p st.dim a es c a' is c' st.mark :: roM M :: A) (fun r L' => (∃ u : Option OV, r = .tuple #[cvO u, .int .i64 (openE st s [id])] ∧ (∀ o, u = some o → SlM M o.a o.vec.length 1 (o.vec.map I32)) ∧ getV st id s = (u.map (·.vec)).getD []) ∧ L' = rP p st.dim a es c a' is c' st.mark :: roM M :: A) := by
  have hel : es.length ≤ 16 * n := by rw [hok.len.2]; exact hw.cl
  unfold getV openE
  refine CallsS.of_body Tryz.func32 rfl rfl rfl ?_
  repeat (first | (refine GQ.y ?_; refine Q.y ?_) | refine Q.go ?_ | (refine GQ.g ?_; refine Q.gq ?_) | (refine GQ.s ?_; refine Q.st ?_) | (refine GQ.g ?_; refine Q.gd ?_) | refine Q.ct rfl ?_ | refine Q.cf rfl ?_ | (refine GQ.a ?_; refine Q.al (fun b1 => ?_)))
  refine opsS_ent (L' := rP p st.dim a es c a' is c' st.mark :: roM M :: pt b1 (cl [.int .u64 id] 22) :: A) (by repeat (first | exact Ent.refl _ | exact Ent.nil | refine Ent.pick ?_ | refine Ent.nilS ?_ | refine Ent.nilM ?_ | refine Ent.drop ?_)) ?_
  refine S.cr rfl (RBlocked_spec p st n M a es c a' is c' s (some ⟨b1, 0, none⟩) 1 [id] _ hok hw hn ⟨rfl, .inr ⟨b1, 0, rfl, RdC.row⟩⟩ (by simp)) ?_
  rintro _ _ ⟨rfl, rfl⟩
  cases hb : blockedV st s [id] with
  | true =>
    repeat (first | (refine GQ.y ?_; refine Q.y ?_) | refine Q.go ?_ | (refine GQ.g ?_; refine Q.gq ?_) | (refine GQ.s ?_; refine Q.st ?_) | (refine GQ.g ?_; refine Q.gd ?_) | refine Q.ct rfl ?_ | refine Q.cf rfl ?_ | (refine GQ.a ?_; refine Q.al (fun b1 => ?_)))
    exact N.r2 (RV.tmp rfl (RV.tmp rfl RV.nil)) (by repeat (first | exact Ent.refl _ | exact Ent.nil | refine Ent.pick ?_ | refine Ent.nilS ?_ | refine Ent.nilM ?_ | refine Ent.drop ?_)) ⟨⟨none, rfl, fun o ho => (by cases ho), rfl⟩, rfl⟩
  | false =>
    by_cases hm : s < st.mark
    · repeat (first | (refine GQ.y ?_; refine Q.y ?_) | refine Q.go ?_ | (refine GQ.g ?_; refine Q.gq ?_) | (refine GQ.s ?_; refine Q.st ?_) | (refine GQ.g ?_; refine Q.gd ?_) | refine Q.ct rfl ?_ | refine Q.cf rfl ?_ | (refine GQ.a ?_; refine Q.al (fun b1 => ?_)))
      simp only [Bool.false_eq_true, if_false, if_pos hm]
      exact N.r2 (RV.tmp rfl (RV.tmp rfl RV.nil)) (by repeat (first | exact Ent.refl _ | exact Ent.nil | refine Ent.pick ?_ | refine Ent.nilS ?_ | refine Ent.nilM ?_ | refine Ent.drop ?_)) ⟨⟨none, rfl, fun o ho => (by cases ho), rfl⟩, rfl⟩
    · repeat (first | (refine GQ.y ?_; refine Q.y ?_) | refine Q.go ?_ | (refine GQ.g ?_; refine Q.gq ?_) | (refine GQ.s ?_; refine Q.st ?_) | (refine GQ.g ?_; refine Q.gd ?_) | refine Q.ct rfl ?_ | refine Q.cf rfl ?_ | (refine GQ.a ?_; refine Q.al (fun b1 => ?_)))
      simp only [Bool.false_eq_true, if_false, if_neg hm]
      refine S.cr rfl (RChain_spec p st.dim a es c a' is c' st.mark id M _ hok.sE (by omega)) ?_
      rintro _ _ ⟨⟨e, he, rfl, rfl⟩ | ⟨rfl, hno⟩, rfl⟩
      · have h3 := hok.esl hw he
        repeat (first | (refine GQ.y ?_; refine Q.y ?_) | refine Q.go ?_ | (refine GQ.g ?_; refine Q.gq ?_) | (refine GQ.s ?_; refine Q.st ?_) | (refine GQ.g ?_; refine Q.gd ?_) | refine Q.ct rfl ?_ | refine Q.cf rfl ?_ | (refine GQ.a ?_; refine Q.al (fun b1 => ?_)))
        refine S.cr rfl (RAt_spec e.a e.c e.vs s _ (hok.oe e he).1.rd (by omega) h3.1) ?_
        rintro _ _ ⟨⟨u, rfl, hu, hat⟩, rfl⟩
        repeat (first | (refine GQ.y ?_; refine Q.y ?_) | refine Q.go ?_ | (refine GQ.g ?_; refine Q.gq ?_) | (refine GQ.s ?_; refine Q.st ?_) | (refine GQ.g ?_; refine Q.gd ?_) | refine Q.ct rfl ?_ | refine Q.cf rfl ?_ | (refine GQ.a ?_; refine Q.al (fun b1 => ?_)))
        rw [hok.chv he]
        exact N.r2 (RV.tmp rfl (RV.tmp rfl RV.nil)) (by repeat (first | exact Ent.refl _ | exact Ent.nil | refine Ent.pick ?_ | refine Ent.nilS ?_ | refine Ent.nilM ?_ | refine Ent.drop ?_)) ⟨⟨u, rfl, fun o ho => (hok.oe e he).2 o (hu o ho), hat⟩, rfl⟩
      · repeat (first | (refine GQ.y ?_; refine Q.y ?_) | refine Q.go ?_ | (refine GQ.g ?_; refine Q.gq ?_) | (refine GQ.s ?_; refine Q.st ?_) | (refine GQ.g ?_; refine Q.gd ?_) | refine Q.ct rfl ?_ | refine Q.cf rfl ?_ | (refine GQ.a ?_; refine Q.al (fun b1 => ?_)))
        refine S.cr rfl (RAt_spec none 0 [] s _ ⟨rfl, .inl rfl⟩ (by simp) List.Pairwise.nil) ?_
        rintro _ _ ⟨⟨u, rfl, hu, hat⟩, rfl⟩
        repeat (first | (refine GQ.y ?_; refine Q.y ?_) | refine Q.go ?_ | (refine GQ.g ?_; refine Q.gq ?_) | (refine GQ.s ?_; refine Q.st ?_) | (refine GQ.g ?_; refine Q.gd ?_) | refine Q.ct rfl ?_ | refine Q.cf rfl ?_ | (refine GQ.a ?_; refine Q.al (fun b1 => ?_)))
        have hcv : chV st.ch id = [] := by unfold chV; rw [hok.noC hno]; rfl
        rw [hcv]
        exact N.r2 (RV.tmp rfl (RV.tmp rfl RV.nil)) (by repeat (first | exact Ent.refl _ | exact Ent.nil | refine Ent.pick ?_ | refine Ent.nilS ?_ | refine Ent.nilM ?_ | refine Ent.drop ?_)) ⟨⟨u, rfl, fun o ho => (by have := hu o ho; cases this), hat⟩, rfl⟩
set_option maxHeartbeats 1000000 in
theorem RScan_spec (p : Nat) (st : VS) (n : Nat) (M : Nat → Option Obj) (a : Option Addr) (es : List EV) (c : Nat) (a' : Option Addr) (is : List IV) (c' : Nat) (s : Int) (A : List HP) (hok : ROK M st a c es a' c' is) (hw : WF st n) (hn : n ≤ 10000) :
    CallsS Tryz.prog 34 [ptrV p, .int .u64 s] (rP p st.dim a es c a' is c' st.mark :: roM M :: A) (fun r L' => ∃ (a5 : Option Addr) (c5 : Nat) (us : List OV), r = .tuple #[.slice a5 us.length c5, .int .i64 (openE st s [])] ∧ us.map OV.abs = scanV st s ∧ okR M us ∧ us.length ≤ es.length ∧ L' = slO 138 3 a5 us.length c5 (us.flatMap cH) :: rP p st.dim a es c a' is c' st.mark :: roM M :: A) := by
  have hel : es.length ≤ 16 * n := by rw [hok.len.2]; exact hw.cl
  unfold scanV
  rw [hok.ids]
  unfold openE
  refine CallsS.of_body Tryz.func34 rfl rfl rfl ?_
  repeat (first | (refine GQ.y ?_; refine Q.y ?_) | refine Q.go ?_ | (refine GQ.g ?_; refine Q.gq ?_) | (refine GQ.s ?_; refine Q.st ?_) | (refine GQ.g ?_; refine Q.gd ?_) | refine Q.ct rfl ?_ | refine Q.cf rfl ?_ | (refine GQ.a ?_; refine Q.al (fun b1 => ?_)))
  refine S.cr rfl (RBlocked_spec p st n M a es c a' is c' s none 0 [] _ hok hw hn ⟨rfl, .inl rfl⟩ (by simp)) ?_
  rintro _ _ ⟨rfl, rfl⟩
  cases hb : blockedV st s [] with
  | true =>
    repeat (first | (refine GQ.y ?_; refine Q.y ?_) | refine Q.go ?_ | (refine GQ.g ?_; refine Q.gq ?_) | (refine GQ.s ?_; refine Q.st ?_) | (refine GQ.g ?_; refine Q.gd ?_) | refine Q.ct rfl ?_ | refine Q.cf rfl ?_ | (refine GQ.a ?_; refine Q.al (fun b1 => ?_)))
    exact N.r2 (RV.tmp rfl (RV.tmp rfl RV.nil)) (Ent.trans (by repeat (first | exact Ent.refl _ | exact Ent.nil | refine Ent.pick ?_ | refine Ent.nilS ?_ | refine Ent.nilM ?_ | refine Ent.drop ?_)) slO_nil) ⟨none, 0, [], rfl, rfl, fun o ho => (by cases ho), Nat.zero_le _, rfl⟩
  | false =>
    by_cases hm : s < st.mark
    · repeat (first | (refine GQ.y ?_; refine Q.y ?_) | refine Q.go ?_ | (refine GQ.g ?_; refine Q.gq ?_) | (refine GQ.s ?_; refine Q.st ?_) | (refine GQ.g ?_; refine Q.gd ?_) | refine Q.ct rfl ?_ | refine Q.cf rfl ?_ | (refine GQ.a ?_; refine Q.al (fun b1 => ?_)))
      simp only [Bool.false_eq_true, if_false, if_pos hm]
      exact N.r2 (RV.tmp rfl (RV.tmp rfl RV.nil)) (Ent.trans (by repeat (first | exact Ent.refl _ | exact Ent.nil | refine Ent.pick ?_ | refine Ent.nilS ?_ | refine Ent.nilM ?_ | refine Ent.drop ?_)) slO_nil) ⟨none, 0, [], rfl, rfl, fun o ho => (by cases ho), Nat.zero_le _, rfl⟩
    · simp only [Bool.false_eq_true, if_false, if_neg hm]
      rw [if_neg (show ¬ ((0 : Int) ≠ 0) by simp)]
      repeat (first | (refine GQ.y ?_; refine Q.y ?_) | refine Q.go ?_ | (refine GQ.g ?_; refine Q.gq ?_) | (refine GQ.s ?_; refine Q.st ?_) | (refine GQ.g ?_; refine Q.gd ?_) | refine Q.ct rfl ?_ | refine Q.cf rfl ?_ | (refine GQ.a ?_; refine Q.al (fun b1 => ?_)))
      refine swp_cutB (σ := Option Addr × Nat × List OV) (fun u => [(6, .slice u.1 u.2.2.length u.2.1)]) (fun u => slO 138 3 u.1 u.2.2.length u.2.1 (u.2.2.flatMap cH) :: rP p st.dim a es c a' is c' st.mark :: roM M :: A) (fun u => okR M u.2.2 ∧ u.2.2.length ≤ es.length ∧ u.2.2.map OV.abs = (es.map (·.id)).flatMap (hitV st.ch s)) ?_ ?_
      · refine swp_loop (σ := Nat × Option Addr × Nat × List OV) (fun u => [(1, .int .u64 s), (27, .slice a es.length c), (28, .int .i64 es.length), (6, .slice u.2.1 u.2.2.2.length u.2.2.1), (29, .int .i64 u.1)]) (fun u => slO 138 3 u.2.1 u.2.2.2.length u.2.2.1 (u.2.2.2.flatMap cH) :: rP p st.dim a es c a' is c' st.mark :: roM M :: A)
          (fun u => u.1 ≤ es.length ∧ okR M u.2.2.2 ∧ u.2.2.2.length ≤ u.1 ∧ u.2.2.2.map OV.abs = ((es.take u.1).map (·.id)).flatMap (hitV st.ch s)) (fun u => es.length - u.1) (0, none, 0, []) ⟨rfl, rfl, rfl, rfl, rfl, trivial⟩ (Ent.trans (by repeat (first | exact Ent.refl _ | exact Ent.nil | refine Ent.pick ?_ | refine Ent.nilS ?_ | refine Ent.nilM ?_ | refine Ent.drop ?_)) slO_nil) ⟨by omega, fun o ho => (by cases ho), Nat.zero_le _, rfl⟩ ?_
        rintro ⟨k, a3, c3, us⟩ ⟨hk, hou, hul, hus⟩
        dsimp only at hk hou hul hus ⊢
        by_cases hlt : k < es.length
        · obtain ⟨e, he⟩ := mem_get hlt
          have hme : e ∈ es := List.mem_of_getElem? he
          have h3 := hok.esl hw hme
          have hrs : RdS (slO 138 3 a3 us.length c3 (us.flatMap cH) :: rP p st.dim a es c a' is c' st.mark :: roM M :: A) a es.length 2 (es.flatMap EV.cells) := hok.sE.rd
          obtain ⟨b, oo, hia, hr⟩ := RdS.elem (g := EV.cells) (fun _ => rfl) hrs he rfl
          clear hrs
          rw [hia] at hr ⊢
          have htk : ((es.take (k + 1)).map (·.id)).flatMap (hitV st.ch s) = us.map OV.abs ++ hitV st.ch s e.id := by rw [take_snoc he, List.map_append, List.flatMap_append, ← hus]; simp
          have hh : hitV st.ch s e.id = if 0 < (atV (e.vs.map OV.abs) s).length then [(e.id, atV (e.vs.map OV.abs) s)] else [] := by unfold hitV; rw [hok.chv hme]
          rw [hh] at htk
          clear hh
          repeat (first | (refine GQ.y ?_; refine Q.y ?_) | refine Q.go ?_ | (refine GQ.g ?_; refine Q.gq ?_) | (refine GQ.s ?_; refine Q.st ?_) | (refine GQ.g ?_; refine Q.gd ?_) | refine Q.ct rfl ?_ | refine Q.cf rfl ?_ | (refine GQ.a ?_; refine Q.al (fun b1 => ?_)))
          refine S.cr rfl (RAt_spec e.a e.c e.vs s _ (hok.oe e hme).1.rd (by omega) h3.1) ?_
          rintro _ _ ⟨⟨u, rfl, hu, hat⟩, rfl⟩
          rw [hat] at htk
          cases u with
          | none =>
            unfold cvO
            repeat (first | (refine GQ.y ?_; refine Q.y ?_) | refine Q.go ?_ | (refine GQ.g ?_; refine Q.gq ?_) | (refine GQ.s ?_; refine Q.st ?_) | (refine GQ.g ?_; refine Q.gd ?_) | refine Q.ct rfl ?_ | refine Q.cf rfl ?_ | (refine GQ.a ?_; refine Q.al (fun b1 => ?_)))
            refine ⟨(k + 1, a3, c3, us), ⟨rfl, rfl, rfl, rfl, rfl, trivial⟩, by repeat (first | exact Ent.refl _ | exact Ent.nil | refine Ent.pick ?_ | refine Ent.nilS ?_ | refine Ent.nilM ?_ | refine Ent.drop ?_), ⟨by dsimp only; omega, hou, by dsimp only; omega, by dsimp only; rw [htk]; simp⟩, by dsimp only; omega⟩
          | some o =>
            have ho8 := h3.2.2 o (hu o rfl)
            unfold cvO
            dsimp only [Option.map, Option.getD] at htk
            by_cases h0 : 0 < o.vec.length
            · rw [if_pos h0] at htk
              repeat (first | (refine GQ.y ?_; refine Q.y ?_) | refine Q.go ?_ | (refine GQ.g ?_; refine Q.gq ?_) | (refine GQ.s ?_; refine Q.st ?_) | (refine GQ.g ?_; refine Q.gd ?_) | refine Q.ct rfl ?_ | refine Q.cf rfl ?_ | (refine GQ.a ?_; refine Q.al (fun b1 => ?_)))
              refine S.app rfl rfl (SrcS.sl RdC.row (by rfl) (by rfl)) (by rfl) (by omega) (by omega) (fun a4 c4 => ?_)
              repeat (first | (refine GQ.y ?_; refine Q.y ?_) | refine Q.go ?_ | (refine GQ.g ?_; refine Q.gq ?_) | (refine GQ.s ?_; refine Q.st ?_) | (refine GQ.g ?_; refine Q.gd ?_) | refine Q.ct rfl ?_ | refine Q.cf rfl ?_ | (refine GQ.a ?_; refine Q.al (fun b1 => ?_)))
              refine ⟨(k + 1, a4, c4, us ++ [⟨e.id, o.a, o.c, o.vec⟩]), ⟨rfl, rfl, rfl, congrArg some (by simp), rfl, trivial⟩, ?_, ⟨by dsimp only; omega, fun w hw => ?_, by simp; omega, by dsimp only; rw [htk, List.map_append]; rfl⟩, by dsimp only; omega⟩
              · dsimp only
                rw [len_snoc, flat_snoc]
                repeat (first | exact Ent.refl _ | exact Ent.nil | refine Ent.pick ?_ | refine Ent.nilS ?_ | refine Ent.nilM ?_ | refine Ent.drop ?_)
              · rcases List.mem_append.1 hw with hw | hw
                · exact hou w hw
                · obtain rfl := List.mem_singleton.1 hw
                  exact (hok.oe e hme).2 o (hu o rfl)
            · rw [if_neg h0] at htk
              repeat (first | (refine GQ.y ?_; refine Q.y ?_) | refine Q.go ?_ | (refine GQ.g ?_; refine Q.gq ?_) | (refine GQ.s ?_; refine Q.st ?_) | (refine GQ.g ?_; refine Q.gd ?_) | refine Q.ct rfl ?_ | refine Q.cf rfl ?_ | (refine GQ.a ?_; refine Q.al (fun b1 => ?_)))
              refine ⟨(k + 1, a3, c3, us), ⟨rfl, rfl, rfl, rfl, rfl, trivial⟩, by repeat (first | exact Ent.refl _ | exact Ent.nil | refine Ent.pick ?_ | refine Ent.nilS ?_ | refine Ent.nilM ?_ | refine Ent.drop ?_), ⟨by dsimp only; omega, hou, by dsimp only; omega, by dsimp only; rw [htk]; simp⟩, by dsimp only; omega⟩
        · have hke : k = es.length := by omega
          subst hke
          rw [List.take_length] at hus
          repeat (first | (refine GQ.y ?_; refine Q.y ?_) | refine Q.go ?_ | (refine GQ.g ?_; refine Q.gq ?_) | (refine GQ.s ?_; refine Q.st ?_) | (refine GQ.g ?_; refine Q.gd ?_) | refine Q.ct rfl ?_ | refine Q.cf rfl ?_ | (refine GQ.a ?_; refine Q.al (fun b1 => ?_)))
          exact ⟨(a3, c3, us), ⟨rfl, trivial⟩, by repeat (first | exact Ent.refl _ | exact Ent.nil | refine Ent.pick ?_ | refine Ent.nilS ?_ | refine Ent.nilM ?_ | refine Ent.drop ?_), hou, hul, hus⟩
      rintro ⟨a3, c3, us⟩ ⟨hou, hul, hus⟩
      dsimp only at hou hul hus ⊢
      repeat (first | (refine GQ.y ?_; refine Q.y ?_) | refine Q.go ?_ | (refine GQ.g ?_; refine Q.gq ?_) | (refine GQ.s ?_; refine Q.st ?_) | (refine GQ.g ?_; refine Q.gd ?_) | refine Q.ct rfl ?_ | refine Q.cf rfl ?_ | (refine GQ.a ?_; refine Q.al (fun b1 => ?_)))
      exact N.r2 (RV.tmp rfl (RV.tmp rfl RV.nil)) (Ent.refl _) ⟨a3, c3, us, rfl, hus, hou, hul, rfl⟩
theorem Mark_spec (v : Nat) (st : VS) (L : List HP) :
    CallsS Tryz.prog 15 [ptrV v] (vaultH v st :: L) (fun r L' => r = .int .u64 st.mark ∧ L' = vaultH v st :: L) := by
  refine calls_vault fun mc mi M cs is hok => ?_
  refine CallsS.of_body Tryz.func15 rfl rfl rfl ?_
  repeat (first | (refine GQ.y ?_; refine Q.y ?_) | refine Q.go ?_ | (refine GQ.g ?_; refine Q.gq ?_) | (refine GQ.s ?_; refine Q.st ?_) | (refine GQ.g ?_; refine Q.gd ?_) | refine Q.ct rfl ?_ | refine Q.cf rfl ?_ | (refine GQ.a ?_; refine Q.al (fun b1 => ?_)))
  exact N.r1 (RV.tmp rfl RV.nil) (vault_shut (mc := mc) (mi := mi) hok) ⟨rfl, rfl⟩
set_option maxHeartbeats 1000000 in
theorem SameHits_spec (a : Option Addr) (c : Nat) (xs : List OV) (a' : Option Addr) (c' : Nat) (ys : List OV) (A : List HP) (h : RdS A a xs.length 3 (xs.flatMap cH) ∧ ∀ o ∈ xs, RdS A o.a o.vec.length 1 (o.vec.map I32)) (h' : RdS A a' ys.length 3 (ys.flatMap cH) ∧ ∀ o ∈ ys, RdS A o.a o.vec.length 1 (o.vec.map I32)) (hn : xs.length ≤ 1000000) (hv : ∀ o ∈ xs, o.vec.length ≤ 1000000) (he : xs.map OV.abs = ys.map OV.abs) :
    CallsS Tryz.prog 36 [.slice a xs.length c, .slice a' ys.length c'] A (fun v L' => v = .bool true ∧ L' = A) := by
  have hl : ys.length = xs.length := by
    have := congrArg List.length he
    simp at this; omega
  refine CallsS.of_body Tryz.func36 rfl rfl rfl ?_
  repeat (first | (refine GQ.y ?_; refine Q.y ?_) | refine Q.go ?_ | (refine GQ.g ?_; refine Q.gq ?_) | (refine GQ.s ?_; refine Q.st ?_) | (refine GQ.g ?_; refine Q.gd ?_) | refine Q.ct rfl ?_ | refine Q.cf rfl ?_ | (refine GQ.a ?_; refine Q.al (fun b1 => ?_)))
  refine swp_loop (σ := Nat) (fun k => [(0, .slice a xs.length c), (1, .slice a' ys.length c'), (12, .int .i64 xs.length), (13, .int .i64 k)]) (fun _ => A)
    (fun k => k ≤ xs.length) (fun k => xs.length - k) 0 ⟨rfl, rfl, rfl, rfl, trivial⟩ (Ent.refl _) (by omega) ?_
  intro k hk
  by_cases hlt : k < xs.length
  · obtain ⟨x, hx⟩ := mem_get hlt
    obtain ⟨y, hy⟩ := mem_get (l := ys) (k := k) (by omega)
    have hxy : x.abs = y.abs := by
      have h1 : (xs.map OV.abs)[k]? = some x.abs := by simp [hx]
      have h2 : (ys.map OV.abs)[k]? = some y.abs := by simp [hy]
      rw [he, h2] at h1
      exact (Option.some.inj h1).symm
    have hid : x.id = y.id := congrArg Prod.fst hxy
    have hvc : x.vec = y.vec := congrArg Prod.snd hxy
    have hmx : x ∈ xs := List.mem_of_getElem? hx
    have hmy : y ∈ ys := List.mem_of_getElem? hy
    have hrx := h.2 x hmx
    have hry := h'.2 y hmy
    have hvx := hv x hmx
    obtain ⟨b, o, rfl, hr⟩ := RdS.elem (g := cH) (l := xs) (fun _ => rfl) h.1 hx rfl
    obtain ⟨b', o', rfl, hr'⟩ := RdS.elem (g := cH) (l := ys) (fun _ => rfl) h'.1 hy rfl
    clear hx hy hmx hmy hxy he
    obtain ⟨xi, xa, xc, xv⟩ := x
    obtain ⟨yi, ya, yc, yv⟩ := y
    dsimp only at hid hvc hrx hry hvx
    subst hid hvc
    replace hr : RdC A b (o + k * 3) [.int .u64 xi, .int .u64 0, .slice xa xv.length xc] := hr
    replace hr' : RdC A b' (o' + k * 3) [.int .u64 xi, .int .u64 0, .slice ya xv.length yc] := hr'
    repeat (first | (refine GQ.y ?_; refine Q.y ?_) | refine Q.go ?_ | (refine GQ.g ?_; refine Q.gq ?_) | (refine GQ.s ?_; refine Q.st ?_) | (refine GQ.g ?_; refine Q.gd ?_) | refine Q.ct rfl ?_ | refine Q.cf rfl ?_ | (refine GQ.a ?_; refine Q.al (fun b1 => ?_)))
    refine D.start [35] [35] [0, 1, 2, 3, 4, 5, 6, 7, 8, 9, 10, 11, 12, 13, 14, 15, 16, 17, 18, 19, 20, 21, 22, 23, 24, 25, 26, 27, 28, 29, 30, 31, 32, 33, 34, 35, 36, 37] _ [] rfl (by kernel_rfl) rfl (by kernel_rfl) NoPanic.no (Ent.refl _) ?_
    repeat (first | refine Q.dyn rfl rfl rfl ?_ | refine Q.dyl rfl rfl rfl ?_ | refine D.y rfl rfl rfl (by kernel_rfl) (by first | exact (Y.ldRj rfl (by first | assumption | exact RdC.sub (by assumption)) rfl) | exact Y.guard rfl (Y.ldRj rfl (by first | assumption | exact RdC.sub (by assumption)) rfl)) ?_ | refine D.endA ?_ | refine Q.dp rfl rfl rfl ?_ | refine Q.dy rfl rfl rfl ?_ | refine D.end_ ?_ | refine Q.endH ?_ | (refine D.e rfl rfl rfl ?_; (first | refine S.gskip1 rfl ?_ | refine S.gskip rfl ?_ | refine S.y (Y.gskipU rfl) ?_); refine opsS_nil ?_; refine N.tn ?_) | refine Q.dT rfl rfl rfl ?_ | refine Q.dF rfl rfl rfl ?_ | (refine D.e rfl rfl rfl ?_; (first | (refine GQ.a ?_; refine Q.al (fun b1 => ?_)) | (refine GQ.s ?_; refine Q.st ?_)); refine opsS_nil ?_; refine N.tn ?_))
    refine Q.dF rfl rfl rfl ?_ (by simp)
    repeat (first | refine Q.dyn rfl rfl rfl ?_ | refine Q.dyl rfl rfl rfl ?_ | refine D.y rfl rfl rfl (by kernel_rfl) (by first | exact (Y.ldRj rfl (by first | assumption | exact RdC.sub (by assumption)) rfl) | exact Y.guard rfl (Y.ldRj rfl (by first | assumption | exact RdC.sub (by assumption)) rfl)) ?_ | refine D.endA ?_ | refine Q.dp rfl rfl rfl ?_ | refine Q.dy rfl rfl rfl ?_ | refine D.end_ ?_ | refine Q.endH ?_ | (refine D.e rfl rfl rfl ?_; (first | refine S.gskip1 rfl ?_ | refine S.gskip rfl ?_ | refine S.y (Y.gskipU rfl) ?_); refine opsS_nil ?_; refine N.tn ?_) | refine Q.dT rfl rfl rfl ?_ | refine Q.dF rfl rfl rfl ?_ | (refine D.e rfl rfl rfl ?_; (first | (refine GQ.a ?_; refine Q.al (fun b1 => ?_)) | (refine GQ.s ?_; refine Q.st ?_)); refine opsS_nil ?_; refine N.tn ?_))
    refine Q.dF rfl rfl rfl ?_ (by simp)
    repeat (first | refine Q.dyn rfl rfl rfl ?_ | refine Q.dyl rfl rfl rfl ?_ | refine D.y rfl rfl rfl (by kernel_rfl) (by first | exact (Y.ldRj rfl (by first | assumption | exact RdC.sub (by assumption)) rfl) | exact Y.guard rfl (Y.ldRj rfl (by first | assumption | exact RdC.sub (by assumption)) rfl)) ?_ | refine D.endA ?_ | refine Q.dp rfl rfl rfl ?_ | refine Q.dy rfl rfl rfl ?_ | refine D.end_ ?_ | refine Q.endH ?_ | (refine D.e rfl rfl rfl ?_; (first | refine S.gskip1 rfl ?_ | refine S.gskip rfl ?_ | refine S.y (Y.gskipU rfl) ?_); refine opsS_nil ?_; refine N.tn ?_) | refine Q.dT rfl rfl rfl ?_ | refine Q.dF rfl rfl rfl ?_ | (refine D.e rfl rfl rfl ?_; (first | (refine GQ.a ?_; refine Q.al (fun b1 => ?_)) | (refine GQ.s ?_; refine Q.st ?_)); refine opsS_nil ?_; refine N.tn ?_))
    refine Q.dc rfl rfl rfl rfl ?_
    rw [List.append_nil]
    refine S.guard rfl ?_
    refine S.cr rfl (SameVec_spec xa xc xv ya yc xv _ hrx.sub hry.sub (by omega)) ?_
    rintro _ _ ⟨rfl, rfl⟩
    repeat (first | (refine GQ.y ?_; refine Q.y ?_) | refine Q.go ?_ | (refine GQ.g ?_; refine Q.gq ?_) | (refine GQ.s ?_; refine Q.st ?_) | (refine GQ.g ?_; refine Q.gd ?_) | refine Q.ct rfl ?_ | refine Q.cf rfl ?_ | (refine GQ.a ?_; refine Q.al (fun b1 => ?_)))
    repeat (first | refine Q.dyn rfl rfl rfl ?_ | refine Q.dyl rfl rfl rfl ?_ | refine D.y rfl rfl rfl (by kernel_rfl) (by first | exact (Y.ldRj rfl (by first | assumption | exact RdC.sub (by assumption)) rfl) | exact Y.guard rfl (Y.ldRj rfl (by first | assumption | exact RdC.sub (by assumption)) rfl)) ?_ | refine D.endA ?_ | refine Q.dp rfl rfl rfl ?_ | refine Q.dy rfl rfl rfl ?_ | refine D.end_ ?_ | refine Q.endH ?_ | (refine D.e rfl rfl rfl ?_; (first | refine S.gskip1 rfl ?_ | refine S.gskip rfl ?_ | refine S.y (Y.gskipU rfl) ?_); refine opsS_nil ?_; refine N.tn ?_) | refine Q.dT rfl rfl rfl ?_ | refine Q.dF rfl rfl rfl ?_ | (refine D.e rfl rfl rfl ?_; (first | (refine GQ.a ?_; refine Q.al (fun b1 => ?_)) | (refine GQ.s ?_; refine Q.st ?_)); refine opsS_nil ?_; refine N.tn ?_))
    repeat (first | (refine GQ.y ?_; refine Q.y ?_) | refine Q.go ?_ | (refine GQ.g ?_; refine Q.gq ?_) | (refine GQ.s ?_; refine Q.st ?_) | (refine GQ.g ?_; refine Q.gd ?_) | refine Q.ct rfl ?_ | refine Q.cf rfl ?_ | (refine GQ.a ?_; refine Q.al (fun b1 => ?_)))
    exact ⟨k + 1, ⟨rfl, rfl, rfl, rfl, trivial⟩, Ent.refl _, by omega, by omega⟩
  · have hke : k = xs.length := by omega
    subst hke
    repeat (first | (refine GQ.y ?_; refine Q.y ?_) | refine Q.go ?_ | (refine GQ.g ?_; refine Q.gq ?_) | (refine GQ.s ?_; refine Q.st ?_) | (refine GQ.g ?_; refine Q.gd ?_) | refine Q.ct rfl ?_ | refine Q.cf rfl ?_ | (refine GQ.a ?_; refine Q.al (fun b1 => ?_)))
    exact N.r1 (RV.tmp rfl RV.nil) (Ent.refl _) ⟨rfl, rfl⟩
end Go.Proofs.YtieejgbjgcbbjaaGreat
/- The vault: Scan. No condition. -/
namespace Go.Proofs.YtieejgbjgcbbjaaGreat
open Go Go.SX
attribute [local irreducible] swp opsS thenS blockS retS CallsS St Ent YieldS anyS drawS
theorem scan_len (ch : List (Int × VL)) (s : Int) (ks : List Int) : (ks.flatMap (hitV ch s)).length ≤ ks.length := by
  induction ks with
  | nil => simp
  | cons k ks ih =>
    rw [List.flatMap_cons, List.length_append, List.length_cons]
    have : (hitV ch s k).length ≤ 1 := by unfold hitV; split <;> simp
    omega
set_option maxHeartbeats 2000000 in
theorem Scan_spec (v : Nat) (st : VS) (n : Nat) (s : Int) (L : List HP) (hw : WF st n) (hn : n ≤ 10000) :
    CallsS Tryz.prog 33 [ptrV v, .int .u64 s] (vaultH v st :: L)
      (fun r L' => ∃ (a5 : Option Addr) (c5 : Nat) (us : List OV), r = .tuple #[.slice a5 us.length c5, .int .i64 (openE st s [])] ∧ us.map OV.abs = scanV st s ∧ (∀ o ∈ us, o.vec.length = 0 ∨ ∃ b, o.a = some ⟨b, 0, none⟩) ∧ us.length ≤ 16 * n ∧ L' = slO 138 3 a5 us.length c5 (us.flatMap cH) :: vecsH us :: vaultH v st :: L) := by
  refine CallsS.of_body Tryz.func33 rfl rfl rfl ?_
  repeat (first | (refine GQ.y ?_; refine Q.y ?_) | refine Q.go ?_ | (refine GQ.g ?_; refine Q.gq ?_) | (refine GQ.s ?_; refine Q.st ?_) | (refine GQ.g ?_; refine Q.gd ?_) | refine Q.ct rfl ?_ | refine Q.cf rfl ?_ | (refine GQ.a ?_; refine Q.al (fun b1 => ?_)))
  refine S.cv v rfl (open_spec v st s none 0 [] _ hw.ops ⟨rfl, .inl rfl⟩ (by simp)) ?_
  rintro _ _ ⟨rfl, rfl⟩
  unfold scanV
  by_cases hE : openE st s [] ≠ 0
  · rw [if_pos hE]
    repeat (first | (refine GQ.y ?_; refine Q.y ?_) | refine Q.go ?_ | (refine GQ.g ?_; refine Q.gq ?_) | (refine GQ.s ?_; refine Q.st ?_) | (refine GQ.g ?_; refine Q.gd ?_) | refine Q.ct rfl ?_ | refine Q.cf rfl ?_ | (refine GQ.a ?_; refine Q.al (fun b1 => ?_)))
    refine N.r2 (RV.tmp rfl (RV.tmp rfl RV.nil)) ?_ ⟨none, 0, [], rfl, rfl, fun o ho => (by cases ho), Nat.zero_le _, rfl⟩
    exact Ent.trans bodV_nil slO_nil
  rw [if_neg hE]
  have hE0 : openE st s [] = 0 := by omega
  rw [hE0]
  repeat (first | (refine GQ.y ?_; refine Q.y ?_) | refine Q.go ?_ | (refine GQ.g ?_; refine Q.gq ?_) | (refine GQ.s ?_; refine Q.st ?_) | (refine GQ.g ?_; refine Q.gd ?_) | refine Q.ct rfl ?_ | refine Q.cf rfl ?_ | (refine GQ.a ?_; refine Q.al (fun b1 => ?_)))
  refine opsS_vault v (fun mc mi M cs is hok => ?_)
  have hcl : cs.length = st.ch.length := by rw [← hok.ch]; simp
  have hcn : cs.length ≤ 16 * n := by rw [hcl]; exact hw.cl
  refine S.cr rfl (Ids_spec v mc mi st.dim st.mark cs _ (by omega)) ?_
  rintro _ _ ⟨a, c, rfl, rfl⟩
  repeat (first | (refine GQ.y ?_; refine Q.y ?_) | refine Q.go ?_ | (refine GQ.g ?_; refine Q.gq ?_) | (refine GQ.s ?_; refine Q.st ?_) | (refine GQ.g ?_; refine Q.gd ?_) | refine Q.ct rfl ?_ | refine Q.cf rfl ?_ | (refine GQ.a ?_; refine Q.al (fun b1 => ?_)))
  obtain ⟨ks, hks⟩ : ∃ ks, ks = sortL (cs.map (·.1)) := ⟨_, rfl⟩
  have hkl : ks.length = cs.length := by rw [hks, sortL_len, List.length_map]
  have hki : swIds st.ch = ks := by rw [hks]; unfold swIds; rw [← hok.ch, List.map_map]; rfl
  rw [← hks, hki]
  have hkm : ∀ x ∈ ks, ∃ u ∈ cs, u.1 = x := fun x hx => by
    rw [hks] at hx
    obtain ⟨u, hu, e⟩ := List.mem_map.1 ((sortL_perm _).mem_iff.1 hx)
    exact ⟨u, hu, e⟩
  clear hks hki
  have hkk : keysOK (cs.map fun c => (c.1, c.2.2)) := by rw [hok.ch]; exact hok.k1
  refine swp_addr a (fun ha => ?_)
  rw [← hkl] at ha ⊢
  refine swp_cutB (σ := Option Addr × Nat × List OV) (fun u => [(7, .slice u.1 u.2.2.length u.2.1)]) (fun u => slO 138 3 u.1 u.2.2.length u.2.1 (u.2.2.flatMap cH) :: vecsH u.2.2 :: vP v mc mi st.dim st.mark :: vC mc cs :: vI mi is :: chsH M cs :: roM M :: L) (fun u => u.2.2.map OV.abs = ks.flatMap (hitV st.ch s) ∧ ∀ o ∈ u.2.2, o.vec.length = 0 ∨ ∃ b, o.a = some ⟨b, 0, none⟩) ?_ ?_
  · refine swp_loop (σ := Nat × Option Addr × Nat × List OV) (fun u => [(0, ptrV v), (1, .int .u64 s), (19, .slice a ks.length c), (20, .int .i64 ks.length), (7, .slice u.2.1 u.2.2.2.length u.2.2.1), (21, .int .i64 u.1)])
      (fun u => slO 22 1 a ks.length c (ks.map U64) :: slO 138 3 u.2.1 u.2.2.2.length u.2.2.1 (u.2.2.2.flatMap cH) :: vecsH u.2.2.2 :: vP v mc mi st.dim st.mark :: vC mc cs :: vI mi is :: chsH M cs :: roM M :: L)
      (fun u => u.1 ≤ ks.length ∧ u.2.2.2.map OV.abs = (ks.take u.1).flatMap (hitV st.ch s) ∧ ∀ o ∈ u.2.2.2, o.vec.length = 0 ∨ ∃ b, o.a = some ⟨b, 0, none⟩) (fun u => ks.length - u.1) (0, none, 0, []) ⟨rfl, rfl, rfl, rfl, rfl, rfl, trivial⟩ ?_ ⟨by omega, rfl, fun o ho => (by cases ho)⟩ ?_
    · refine Ent.cons ?_
      refine Ent.trans (Ent.trans ?_ bodV_nil) slO_nil
      repeat (first | exact Ent.refl _ | exact Ent.nil | refine Ent.pick ?_ | refine Ent.nilS ?_ | refine Ent.nilM ?_ | refine Ent.drop ?_)
    rintro ⟨k, a3, c3, us⟩ ⟨hk, hus, hua⟩
    dsimp only at hk hus hua ⊢
    have hul : us.length ≤ k := by
      have h1 := congrArg List.length hus
      have h2 := scan_len st.ch s (ks.take k)
      rw [← h1, List.length_map, List.length_take] at h2
      omega
    by_cases hlt : k < ks.length
    · obtain ⟨x, hx⟩ := mem_get hlt
      obtain ⟨u, hu, hux⟩ := hkm x (List.mem_of_getElem? hx)
      rcases ha with ha | ⟨b, rfl⟩
      · omega
      rcases cr_case cs hkk x with ⟨p, q, b2, vs, e0, e1, e2, e3, e4⟩ | ⟨e1, e2, e3⟩
      · have hr : RdC (slO 22 1 (some ⟨b, 0, none⟩) ks.length c (ks.map U64) :: slO 138 3 a3 us.length c3 (us.flatMap cH) :: vecsH us :: vP v mc mi st.dim st.mark :: vC mc cs :: vI mi is :: chsH M cs :: roM M :: L) b (0 + k * 1) (cU x) := RdC.elem (g := cU) (fun _ => rfl) (by rw [flat_U]; exact RdC.ofS) hx
        have hmc : (x, b2, vs) ∈ cs := by rw [e0]; simp
        obtain ⟨R, hR⟩ := chs_mem (M := M) hmc
        have hco := hw.co (x, vs) (by rw [← hok.ch]; exact List.mem_map_of_mem (f := fun c : CR => (c.1, c.2.2)) hmc)
        have hcv : chV st.ch x = vs := by unfold chV; rw [← hok.ch, e2]; rfl
        have htk : (ks.take (k + 1)).flatMap (hitV st.ch s) = us.map OV.abs ++ hitV st.ch s x := by rw [take_snoc hx, List.flatMap_append, ← hus]; simp
        have hh : hitV st.ch s x = if 0 < (atV vs s).length then [(x, atV vs s)] else [] := by unfold hitV; rw [hcv]
        rw [hh] at htk
        clear hh
        repeat (first | (refine GQ.y ?_; refine Q.y ?_) | refine Q.go ?_ | (refine GQ.g ?_; refine Q.gq ?_) | (refine GQ.s ?_; refine Q.st ?_) | (refine GQ.g ?_; refine Q.gd ?_) | refine Q.ct rfl ?_ | refine Q.cf rfl ?_ | (refine GQ.a ?_; refine Q.al (fun b1 => ?_)))
        refine S.y (Y.lk false rfl rfl (fun w => Tryz.zeroValue72 w)) ?_
        rw [e1]
        dsimp only
        refine opsS_ent (L' := chainH M b2 vs :: roM M :: R :: slO 22 1 (some ⟨b, 0, none⟩) ks.length c (ks.map U64) :: slO 138 3 a3 us.length c3 (us.flatMap cH) :: vecsH us :: vP v mc mi st.dim st.mark :: vC mc cs :: vI mi is :: L) ?_ ?_
        · refine Ent.trans (?_ : Ent _ (chsH M cs :: roM M :: slO 22 1 (some ⟨b, 0, none⟩) ks.length c (ks.map U64) :: slO 138 3 a3 us.length c3 (us.flatMap cH) :: vecsH us :: vP v mc mi st.dim st.mark :: vC mc cs :: vI mi is :: L)) ?_
          · repeat (first | exact Ent.refl _ | exact Ent.nil | refine Ent.pick ?_ | refine Ent.nilS ?_ | refine Ent.nilM ?_ | refine Ent.drop ?_)
          exact (hR _).1.trans (Ent.cons (Ent.perm (.swap _ _ _)))
        repeat (first | (refine GQ.y ?_; refine Q.y ?_) | refine Q.go ?_ | (refine GQ.g ?_; refine Q.gq ?_) | (refine GQ.s ?_; refine Q.st ?_) | (refine GQ.g ?_; refine Q.gd ?_) | refine Q.ct rfl ?_ | refine Q.cf rfl ?_ | (refine GQ.a ?_; refine Q.al (fun b1 => ?_)))
        refine S.cr rfl (ChAt_spec M b2 vs s _ hco.1 (by have := hco.2.1; dsimp only at this; omega) (fun w hw => by have := hco.2.2 w hw; omega)) ?_
        rintro _ _ ⟨a5, c5, rfl, rfl⟩
        generalize atV vs s = w at htk ⊢
        refine opsS_addr a5 (fun ha5 => ?_)
        by_cases h0 : 0 < w.length
        · rw [if_pos h0] at htk
          repeat (first | (refine GQ.y ?_; refine Q.y ?_) | refine Q.go ?_ | (refine GQ.g ?_; refine Q.gq ?_) | (refine GQ.s ?_; refine Q.st ?_) | (refine GQ.g ?_; refine Q.gd ?_) | refine Q.ct rfl ?_ | refine Q.cf rfl ?_ | (refine GQ.a ?_; refine Q.al (fun b1 => ?_)))
          refine S.app rfl rfl (SrcS.sl RdC.row (by rfl) (by rfl)) (by rfl) (by omega) (by omega) (fun a4 c4 => ?_)
          repeat (first | (refine GQ.y ?_; refine Q.y ?_) | refine Q.go ?_ | (refine GQ.g ?_; refine Q.gq ?_) | (refine GQ.s ?_; refine Q.st ?_) | (refine GQ.g ?_; refine Q.gd ?_) | refine Q.ct rfl ?_ | refine Q.cf rfl ?_ | (refine GQ.a ?_; refine Q.al (fun b1 => ?_)))
          refine ⟨(k + 1, a4, c4, us ++ [⟨x, a5, c5, w⟩]), ⟨rfl, rfl, rfl, rfl, congrArg some (by simp), rfl, trivial⟩, ?_, ⟨by dsimp only; omega, by dsimp only; rw [htk, List.map_append]; rfl, fun o ho => ?_⟩, by dsimp only; omega⟩
          · dsimp only
            rw [len_snoc, flat_snoc]
            refine Ent.trans ?_ (Ent.cons (Ent.cons (vecs_snoc (o := ⟨x, a5, c5, w⟩) rfl)))
            refine Ent.pick (Ent.pick (Ent.pick (Ent.pick (Ent.pick (Ent.pick (Ent.pick ?_))))))
            refine Ent.trans ?_ (hR _).2
            repeat (first | exact Ent.refl _ | exact Ent.nil | refine Ent.pick ?_ | refine Ent.nilS ?_ | refine Ent.nilM ?_ | refine Ent.drop ?_)
          · rcases List.mem_append.1 ho with ho | ho
            · exact hua o ho
            · obtain rfl := List.mem_singleton.1 ho
              exact ha5
        · rw [if_neg h0, List.append_nil] at htk
          repeat (first | (refine GQ.y ?_; refine Q.y ?_) | refine Q.go ?_ | (refine GQ.g ?_; refine Q.gq ?_) | (refine GQ.s ?_; refine Q.st ?_) | (refine GQ.g ?_; refine Q.gd ?_) | refine Q.ct rfl ?_ | refine Q.cf rfl ?_ | (refine GQ.a ?_; refine Q.al (fun b1 => ?_)))
          refine ⟨(k + 1, a3, c3, us), ⟨rfl, rfl, rfl, rfl, rfl, rfl, trivial⟩, ?_, ⟨by dsimp only; omega, htk.symm, hua⟩, by dsimp only; omega⟩
          dsimp only
          refine Ent.pick (Ent.pick (Ent.pick (Ent.pick (Ent.pick (Ent.pick ?_)))))
          refine Ent.trans ?_ (hR _).2
          repeat (first | exact Ent.refl _ | exact Ent.nil | refine Ent.pick ?_ | refine Ent.nilS ?_ | refine Ent.nilM ?_ | refine Ent.drop ?_)
      · exact absurd hux (e3 u hu)
    · have hke : k = ks.length := by omega
      subst hke
      rw [List.take_length] at hus
      repeat (first | (refine GQ.y ?_; refine Q.y ?_) | refine Q.go ?_ | (refine GQ.g ?_; refine Q.gq ?_) | (refine GQ.s ?_; refine Q.st ?_) | (refine GQ.g ?_; refine Q.gd ?_) | refine Q.ct rfl ?_ | refine Q.cf rfl ?_ | (refine GQ.a ?_; refine Q.al (fun b1 => ?_)))
      exact ⟨(a3, c3, us), ⟨congrArg some (by simp), trivial⟩, by repeat (first | exact Ent.refl _ | exact Ent.nil | refine Ent.pick ?_ | refine Ent.nilS ?_ | refine Ent.nilM ?_ | refine Ent.drop ?_), hus, hua⟩
  rintro ⟨a3, c3, us⟩ ⟨hus, hua⟩
  dsimp only at hus hua ⊢
  have hul : us.length ≤ 16 * n := by
    have h1 := congrArg List.length hus
    have h2 := scan_len st.ch s ks
    rw [← h1, List.length_map] at h2
    omega
  repeat (first | (refine GQ.y ?_; refine Q.y ?_) | refine Q.go ?_ | (refine GQ.g ?_; refine Q.gq ?_) | (refine GQ.s ?_; refine Q.st ?_) | (refine GQ.g ?_; refine Q.gd ?_) | refine Q.ct rfl ?_ | refine Q.cf rfl ?_ | (refine GQ.a ?_; refine Q.al (fun b1 => ?_)))
  exact N.r2 (RV.tmp rfl (RV.tmp rfl RV.nil)) (Ent.cons (Ent.cons (vault_shut hok))) ⟨a3, c3, us, rfl, hus, hua, hul, rfl⟩
end Go.Proofs.YtieejgbjgcbbjaaGreat
/- The vault: Intents, Dump, as what they give is owned. No condition. -/
namespace Go.Proofs.YtieejgbjgcbbjaaGreat
open Go Go.SX
attribute [local irreducible] swp opsS thenS blockS retS CallsS St Ent YieldS anyS drawS
theorem allH_out {A : HP} {l L : List HP} : Ent (allH (A :: l) :: L) (A :: allH l :: L) := Ent.trans Ent.open_all (Ent.cons Ent.shut_all)
theorem allH_in {A : HP} {l L : List HP} : Ent (A :: allH l :: L) (allH (A :: l) :: L) := Ent.trans (Ent.cons Ent.open_all) (Ent.shut_all (L := A :: l))
theorem allH_snoc {A : HP} {l L : List HP} : Ent (A :: allH l :: L) (allH (l ++ [A]) :: L) := by
  refine Ent.trans (Ent.cons Ent.open_all) (Ent.trans ?_ Ent.shut_all)
  rw [List.append_assoc]
  exact Ent.perm List.perm_middle.symm
abbrev opsH (e : IV) : HP := allH [slO 64 2 e.a e.ops.length e.c (e.ops.flatMap OV.cells), vecsH e.ops]
abbrev itsH (es : List IV) : HP := allH (es.map opsH)
abbrev verH (e : EV) : HP := allH [slO 45 2 e.a e.vs.length e.c (e.vs.flatMap OV.cells), vecsH e.vs]
abbrev entH (es : List EV) : HP := allH (es.map verH)
theorem pair_in {A B : HP} {L : List HP} : Ent (A :: B :: L) (allH [A, B] :: L) := Ent.shut_all (L := [A, B])
theorem pair_out {A B : HP} {L : List HP} : Ent (allH [A, B] :: L) (A :: B :: L) := Ent.open_all
theorem its_snoc {es : List IV} {e : IV} {L : List HP} : Ent (slO 64 2 e.a e.ops.length e.c (e.ops.flatMap OV.cells) :: vecsH e.ops :: itsH es :: L) (itsH (es ++ [e]) :: L) := by
  show Ent _ (allH ((es ++ [e]).map opsH) :: L)
  rw [List.map_append, List.map_cons, List.map_nil]
  exact Ent.trans pair_in allH_snoc
theorem ent_snoc {es : List EV} {e : EV} {L : List HP} : Ent (slO 45 2 e.a e.vs.length e.c (e.vs.flatMap OV.cells) :: vecsH e.vs :: entH es :: L) (entH (es ++ [e]) :: L) := by
  show Ent _ (allH ((es ++ [e]).map verH) :: L)
  rw [List.map_append, List.map_cons, List.map_nil]
  exact Ent.trans pair_in allH_snoc
theorem perm_keys {α : Type} {m m' : List (Int × α)} (h : keysOK m) (hn : (m'.map (·.1)).Perm (m.map (·.1))) (hs : ∀ u ∈ m', u ∈ m) : m'.Perm m := by
  have hn' : keysOK m' := hn.nodup_iff.2 h
  refine (List.perm_ext_iff_of_nodup (keys_nodup hn') (keys_nodup h)).2 fun u => ⟨hs u, fun hu => ?_⟩
  obtain ⟨w, hw, e⟩ := List.mem_map.1 (hn.mem_iff.2 (List.mem_map_of_mem hu))
  have h1 := (lkL_iff h).2 (show (w.1, w.2) ∈ m from hs w hw)
  have h2 := (lkL_iff h).2 (show (u.1, u.2) ∈ m from hu)
  rw [e, h2] at h1
  have h3 : w = u := Prod.ext e (Option.some.inj h1).symm
  rw [← h3]; exact hw
theorem nodup_lt {l : List Int} (h : l.Nodup) (hs : l.Pairwise (· ≤ ·)) : l.Pairwise (· < ·) :=
  (hs.and h).imp fun ⟨h1, h2⟩ => by omega
set_option maxHeartbeats 2000000 in
theorem IntentsO_spec (v : Nat) (st : VS) (n : Nat) (L : List HP) (hw : WF st n) (hn : n ≤ 10000) :
    CallsS Tryz.prog 12 [ptrV v] (vaultH v st :: L) (fun r L' => ∃ (a : Option Addr) (c : Nat) (es : List IV), r = .slice a es.length c ∧ (es.map IV.abs).Perm st.its ∧ (es.map (·.txn)).Pairwise (· < ·) ∧ L' = slO 58 3 a es.length c (es.flatMap IV.cells) :: itsH es :: vaultH v st :: L) := by
  refine calls_vault fun mc mi M cs is hok => ?_
  have hcl : is.length = st.its.length := by rw [← hok.its]; simp
  have hcn : is.length ≤ n := by rw [hcl]; exact hw.il
  refine CallsS.of_body Tryz.func12 rfl rfl rfl ?_
  repeat (first | (refine GQ.y ?_; refine Q.y ?_) | refine Q.go ?_ | (refine GQ.g ?_; refine Q.gq ?_) | (refine GQ.s ?_; refine Q.st ?_) | (refine GQ.g ?_; refine Q.gd ?_) | refine Q.ct rfl ?_ | refine Q.cf rfl ?_ | (refine GQ.a ?_; refine Q.al (fun b1 => ?_)))
  refine S.cr rfl (MapKeysI_spec (some mi) _) ?_
  rintro _ _ ⟨bm, rfl, rfl⟩
  repeat (first | (refine GQ.y ?_; refine Q.y ?_) | refine Q.go ?_ | (refine GQ.g ?_; refine Q.gq ?_) | (refine GQ.s ?_; refine Q.st ?_) | (refine GQ.g ?_; refine Q.gd ?_) | refine Q.ct rfl ?_ | refine Q.cf rfl ?_ | (refine GQ.a ?_; refine Q.al (fun b1 => ?_)))
  have hs := KeysI_spec IV.val bm mi (is.map fun i => (i.txn, i)) (vP v mc mi st.dim st.mark :: vC mc cs :: chsH M cs :: roM M :: L)
  rw [List.length_map, List.map_map] at hs
  refine opsS_ent (L' := pt bm (cl [.map (some mi)] 69) :: vI mi is :: vP v mc mi st.dim st.mark :: vC mc cs :: chsH M cs :: roM M :: L) (by repeat (first | exact Ent.refl _ | exact Ent.nil | refine Ent.pick ?_ | refine Ent.nilS ?_ | refine Ent.nilM ?_ | refine Ent.drop ?_)) ?_
  refine S.cr rfl (Sorted_spec _ _ (is.map (·.txn)) _ _ (by rw [List.length_map]; omega) (by rw [List.length_map]; exact hs)) ?_
  rintro _ _ ⟨a, c, rfl, rfl⟩
  rw [List.length_map]
  repeat (first | (refine GQ.y ?_; refine Q.y ?_) | refine Q.go ?_ | (refine GQ.g ?_; refine Q.gq ?_) | (refine GQ.s ?_; refine Q.st ?_) | (refine GQ.g ?_; refine Q.gd ?_) | refine Q.ct rfl ?_ | refine Q.cf rfl ?_ | (refine GQ.a ?_; refine Q.al (fun b1 => ?_)))
  obtain ⟨ks, hks⟩ : ∃ ks, ks = sortL (is.map (·.txn)) := ⟨_, rfl⟩
  have hkl : ks.length = is.length := by rw [hks, sortL_len, List.length_map]
  rw [← hks]
  have hkm : ∀ x ∈ ks, ∃ u ∈ is, u.txn = x := fun x hx => by
    rw [hks] at hx
    obtain ⟨u, hu, e⟩ := List.mem_map.1 ((sortL_perm _).mem_iff.1 hx)
    exact ⟨u, hu, e⟩
  have hkp : ks.Perm (is.map (·.txn)) := by rw [hks]; exact sortL_perm _
  have hin : (is.map (·.txn)).Nodup := by
    have := hok.k2
    unfold keysOK at this
    rw [← hok.its, List.map_map] at this
    exact this
  have hks2 : ks.Pairwise (· < ·) := nodup_lt (hkp.nodup_iff.2 hin) (by rw [hks]; exact sortL_sorted _)
  clear hks hs
  refine swp_addr a (fun ha => ?_)
  rw [← hkl] at ha ⊢
  refine swp_cutB (σ := Option Addr × Nat × List IV) (fun u => [(3, .slice u.1 u.2.2.length u.2.1)]) (fun u => slO 58 3 u.1 u.2.2.length u.2.1 (u.2.2.flatMap IV.cells) :: itsH u.2.2 :: vP v mc mi st.dim st.mark :: vC mc cs :: vI mi is :: chsH M cs :: roM M :: L) (fun u => u.2.2.map (·.txn) = ks ∧ ∀ e ∈ u.2.2, e.abs ∈ st.its) ?_ ?_
  · refine swp_loop (σ := Nat × Option Addr × Nat × List IV) (fun u => [(0, ptrV v), (13, .slice a ks.length c), (14, .int .i64 ks.length), (3, .slice u.2.1 u.2.2.2.length u.2.2.1), (15, .int .i64 u.1)])
      (fun u => slO 22 1 a ks.length c (ks.map U64) :: slO 58 3 u.2.1 u.2.2.2.length u.2.2.1 (u.2.2.2.flatMap IV.cells) :: itsH u.2.2.2 :: vP v mc mi st.dim st.mark :: vC mc cs :: vI mi is :: chsH M cs :: roM M :: L)
      (fun u => u.1 ≤ ks.length ∧ u.2.2.2.map (·.txn) = ks.take u.1 ∧ ∀ e ∈ u.2.2.2, e.abs ∈ st.its) (fun u => ks.length - u.1) (0, none, 0, []) ⟨rfl, rfl, rfl, rfl, rfl, trivial⟩ ?_ ⟨by omega, by simp, by simp⟩ ?_
    · refine Ent.cons (Ent.trans (Ent.trans ?_ (Ent.shut_all (L := []))) slO_nil)
      repeat (first | exact Ent.refl _ | exact Ent.nil | refine Ent.pick ?_ | refine Ent.nilS ?_ | refine Ent.nilM ?_ | refine Ent.drop ?_)
    rintro ⟨k, a3, c3, es⟩ ⟨hk, hes, hall⟩
    dsimp only at hk hes hall ⊢
    have hesl : es.length = k := by
      have := congrArg List.length hes
      simp at this; omega
    by_cases hlt : k < ks.length
    · obtain ⟨x, hx⟩ := mem_get hlt
      obtain ⟨u, hu, hux⟩ := hkm x (List.mem_of_getElem? hx)
      rcases ha with ha | ⟨b, rfl⟩
      · omega
      cases hz : lkL (is.map fun i => (i.txn, i)) x with
      | none => exact absurd hux (lk_none' hz _ (List.mem_map_of_mem (f := fun i : IV => (i.txn, i)) hu))
      | some y =>
        obtain ⟨hmy, hyt⟩ := lk_mem hz
        have hr : RdC (slO 22 1 (some ⟨b, 0, none⟩) ks.length c (ks.map U64) :: slO 58 3 a3 es.length c3 (es.flatMap IV.cells) :: itsH es :: vP v mc mi st.dim st.mark :: vC mc cs :: vI mi is :: chsH M cs :: roM M :: L) b (0 + k * 1) (cU x) := RdC.elem (g := cU) (fun _ => rfl) (by rw [flat_U]; exact RdC.ofS) hx
        have hyi : y.abs ∈ st.its := by rw [← hok.its]; exact List.mem_map_of_mem hmy
        have hio := hw.io y.abs hyi
        have hyl : y.ops.length ≤ 16 := by simpa using hio.1
        repeat (first | (refine GQ.y ?_; refine Q.y ?_) | refine Q.go ?_ | (refine GQ.g ?_; refine Q.gq ?_) | (refine GQ.s ?_; refine Q.st ?_) | (refine GQ.g ?_; refine Q.gd ?_) | refine Q.ct rfl ?_ | refine Q.cf rfl ?_ | (refine GQ.a ?_; refine Q.al (fun b1 => ?_)))
        refine S.y (Y.lk false rfl rfl (fun w => Tryz.zeroValue58 w)) ?_
        rw [hz]
        dsimp only
        refine S.cr rfl (copyOf_spec y _ ((hok.ok y hmy).rd) (by omega) (fun o ho => by have := (hio.2.2 o.abs (List.mem_map_of_mem (f := OV.abs) ho)).1; dsimp only at this; omega)) ?_
        rintro _ _ ⟨a5, c5, us, hus, rfl, rfl⟩
        repeat (first | (refine GQ.y ?_; refine Q.y ?_) | refine Q.go ?_ | (refine GQ.g ?_; refine Q.gq ?_) | (refine GQ.s ?_; refine Q.st ?_) | (refine GQ.g ?_; refine Q.gd ?_) | refine Q.ct rfl ?_ | refine Q.cf rfl ?_ | (refine GQ.a ?_; refine Q.al (fun b1 => ?_)))
        refine S.app rfl rfl (SrcS.sl RdC.row (by rfl) (by rfl)) (by rfl) (by omega) (by omega) (fun a4 c4 => ?_)
        repeat (first | (refine GQ.y ?_; refine Q.y ?_) | refine Q.go ?_ | (refine GQ.g ?_; refine Q.gq ?_) | (refine GQ.s ?_; refine Q.st ?_) | (refine GQ.g ?_; refine Q.gd ?_) | refine Q.ct rfl ?_ | refine Q.cf rfl ?_ | (refine GQ.a ?_; refine Q.al (fun b1 => ?_)))
        refine ⟨(k + 1, a4, c4, es ++ [⟨y.txn, y.after, a5, c5, us⟩]), ⟨rfl, rfl, rfl, congrArg some (by simp), rfl, trivial⟩, ?_, ⟨by dsimp only; omega, ?_, fun e he => ?_⟩, by dsimp only; omega⟩
        · dsimp only
          rw [len_snoc, flat_snoc]
          refine Ent.trans ?_ (Ent.cons (Ent.cons its_snoc))
          dsimp only
          repeat (first | exact Ent.refl _ | exact Ent.nil | refine Ent.pick ?_ | refine Ent.nilS ?_ | refine Ent.nilM ?_ | refine Ent.drop ?_)
        · dsimp only
          rw [List.map_append, hes, take_snoc hx, List.map_cons, List.map_nil, hyt]
        · rcases List.mem_append.1 he with he | he
          · exact hall e he
          · obtain rfl := List.mem_singleton.1 he
            show (y.txn, y.after, us.map OV.abs) ∈ st.its
            rw [hus]; exact hyi
    · have hke : k = ks.length := by omega
      subst hke
      rw [List.take_length] at hes
      repeat (first | (refine GQ.y ?_; refine Q.y ?_) | refine Q.go ?_ | (refine GQ.g ?_; refine Q.gq ?_) | (refine GQ.s ?_; refine Q.st ?_) | (refine GQ.g ?_; refine Q.gd ?_) | refine Q.ct rfl ?_ | refine Q.cf rfl ?_ | (refine GQ.a ?_; refine Q.al (fun b1 => ?_)))
      exact ⟨(a3, c3, es), ⟨congrArg some (by simp), trivial⟩, by repeat (first | exact Ent.refl _ | exact Ent.nil | refine Ent.pick ?_ | refine Ent.nilS ?_ | refine Ent.nilM ?_ | refine Ent.drop ?_), hes, hall⟩
  rintro ⟨a3, c3, es⟩ ⟨hes, hall⟩
  dsimp only at hes hall ⊢
  repeat (first | (refine GQ.y ?_; refine Q.y ?_) | refine Q.go ?_ | (refine GQ.g ?_; refine Q.gq ?_) | (refine GQ.s ?_; refine Q.st ?_) | (refine GQ.g ?_; refine Q.gd ?_) | refine Q.ct rfl ?_ | refine Q.cf rfl ?_ | (refine GQ.a ?_; refine Q.al (fun b1 => ?_)))
  refine N.r1 (RV.tmp rfl RV.nil) ?_ ⟨a3, c3, es, rfl, ?_, by rw [hes]; exact hks2, rfl⟩
  · refine Ent.cons (Ent.cons ?_)
    exact vault_shut (mc := mc) (mi := mi) hok
  · refine perm_keys hok.k2 ?_ (fun u hu => by obtain ⟨w, hw, rfl⟩ := List.mem_map.1 hu; exact hall w hw)
    rw [← hok.its, List.map_map, List.map_map]
    show (es.map (·.txn)).Perm (is.map (·.txn))
    rw [hes]; exact hkp
set_option maxHeartbeats 2000000 in
theorem DumpO_spec (v : Nat) (st : VS) (n : Nat) (L : List HP) (hw : WF st n) (hn : n ≤ 10000) :
    CallsS Tryz.prog 11 [ptrV v] (vaultH v st :: L) (fun r L' => ∃ (a : Option Addr) (c : Nat) (es : List EV), r = .slice a es.length c ∧ (es.map EV.abs).Perm st.ch ∧ (es.map (·.id)).Pairwise (· < ·) ∧ L' = slO 40 2 a es.length c (es.flatMap EV.cells) :: entH es :: vaultH v st :: L) := by
  refine calls_vault fun mc mi M cs is hok => ?_
  have hcl : cs.length = st.ch.length := by rw [← hok.ch]; simp
  have hcn : cs.length ≤ 16 * n := by rw [hcl]; exact hw.cl
  refine CallsS.of_body Tryz.func11 rfl rfl rfl ?_
  repeat (first | (refine GQ.y ?_; refine Q.y ?_) | refine Q.go ?_ | (refine GQ.g ?_; refine Q.gq ?_) | (refine GQ.s ?_; refine Q.st ?_) | (refine GQ.g ?_; refine Q.gd ?_) | refine Q.ct rfl ?_ | refine Q.cf rfl ?_ | (refine GQ.a ?_; refine Q.al (fun b1 => ?_)))
  refine S.cr rfl (Ids_spec v mc mi st.dim st.mark cs _ (by omega)) ?_
  rintro _ _ ⟨a, c, rfl, rfl⟩
  repeat (first | (refine GQ.y ?_; refine Q.y ?_) | refine Q.go ?_ | (refine GQ.g ?_; refine Q.gq ?_) | (refine GQ.s ?_; refine Q.st ?_) | (refine GQ.g ?_; refine Q.gd ?_) | refine Q.ct rfl ?_ | refine Q.cf rfl ?_ | (refine GQ.a ?_; refine Q.al (fun b1 => ?_)))
  obtain ⟨ks, hks⟩ : ∃ ks, ks = sortL (cs.map (·.1)) := ⟨_, rfl⟩
  have hkl : ks.length = cs.length := by rw [hks, sortL_len, List.length_map]
  rw [← hks]
  have hkm : ∀ x ∈ ks, ∃ u ∈ cs, u.1 = x := fun x hx => by
    rw [hks] at hx
    obtain ⟨u, hu, e⟩ := List.mem_map.1 ((sortL_perm _).mem_iff.1 hx)
    exact ⟨u, hu, e⟩
  have hkk : keysOK (cs.map fun c => (c.1, c.2.2)) := by rw [hok.ch]; exact hok.k1
  have hin : (cs.map (·.1)).Nodup := by
    unfold keysOK at hkk
    rw [List.map_map] at hkk
    exact hkk
  have hkp : ks.Perm (cs.map (·.1)) := by rw [hks]; exact sortL_perm _
  have hks2 : ks.Pairwise (· < ·) := nodup_lt (by rw [hks]; exact (sortL_perm _).nodup_iff.2 hin) (by rw [hks]; exact sortL_sorted _)
  clear hks
  refine swp_addr a (fun ha => ?_)
  rw [← hkl] at ha ⊢
  refine swp_cutB (σ := Option Addr × Nat × List EV) (fun u => [(3, .slice u.1 u.2.2.length u.2.1)]) (fun u => slO 40 2 u.1 u.2.2.length u.2.1 (u.2.2.flatMap EV.cells) :: entH u.2.2 :: vP v mc mi st.dim st.mark :: vC mc cs :: vI mi is :: chsH M cs :: roM M :: L) (fun u => u.2.2.map (·.id) = ks ∧ ∀ e ∈ u.2.2, e.abs ∈ st.ch) ?_ ?_
  · refine swp_loop (σ := Nat × Option Addr × Nat × List EV) (fun u => [(0, ptrV v), (9, .slice a ks.length c), (10, .int .i64 ks.length), (3, .slice u.2.1 u.2.2.2.length u.2.2.1), (11, .int .i64 u.1)])
      (fun u => slO 22 1 a ks.length c (ks.map U64) :: slO 40 2 u.2.1 u.2.2.2.length u.2.2.1 (u.2.2.2.flatMap EV.cells) :: entH u.2.2.2 :: vP v mc mi st.dim st.mark :: vC mc cs :: vI mi is :: chsH M cs :: roM M :: L)
      (fun u => u.1 ≤ ks.length ∧ u.2.2.2.map (·.id) = ks.take u.1 ∧ ∀ e ∈ u.2.2.2, e.abs ∈ st.ch) (fun u => ks.length - u.1) (0, none, 0, []) ⟨rfl, rfl, rfl, rfl, rfl, trivial⟩ ?_ ⟨by omega, by simp, by simp⟩ ?_
    · refine Ent.cons (Ent.trans (Ent.trans ?_ (Ent.shut_all (L := []))) slO_nil)
      repeat (first | exact Ent.refl _ | exact Ent.nil | refine Ent.pick ?_ | refine Ent.nilS ?_ | refine Ent.nilM ?_ | refine Ent.drop ?_)
    rintro ⟨k, a3, c3, es⟩ ⟨hk, hes, hall⟩
    dsimp only at hk hes hall ⊢
    have hesl : es.length = k := by
      have := congrArg List.length hes
      simp at this; omega
    by_cases hlt : k < ks.length
    · obtain ⟨x, hx⟩ := mem_get hlt
      obtain ⟨u, hu, hux⟩ := hkm x (List.mem_of_getElem? hx)
      rcases ha with ha | ⟨b, rfl⟩
      · omega
      rcases cr_case cs hkk x with ⟨p, q, b2, vs, e0, e1, e2, e3, e4⟩ | ⟨e1, e2, e3⟩
      · have hr : RdC (slO 22 1 (some ⟨b, 0, none⟩) ks.length c (ks.map U64) :: slO 40 2 a3 es.length c3 (es.flatMap EV.cells) :: entH es :: vP v mc mi st.dim st.mark :: vC mc cs :: vI mi is :: chsH M cs :: roM M :: L) b (0 + k * 1) (cU x) := RdC.elem (g := cU) (fun _ => rfl) (by rw [flat_U]; exact RdC.ofS) hx
        have hmc : (x, b2, vs) ∈ cs := by rw [e0]; simp
        obtain ⟨R, hR⟩ := chs_mem (M := M) hmc
        have hxs : (x, vs) ∈ st.ch := by rw [← hok.ch]; exact List.mem_map_of_mem (f := fun c : CR => (c.1, c.2.2)) hmc
        have hco := hw.co (x, vs) hxs
        repeat (first | (refine GQ.y ?_; refine Q.y ?_) | refine Q.go ?_ | (refine GQ.g ?_; refine Q.gq ?_) | (refine GQ.s ?_; refine Q.st ?_) | (refine GQ.g ?_; refine Q.gd ?_) | refine Q.ct rfl ?_ | refine Q.cf rfl ?_ | (refine GQ.a ?_; refine Q.al (fun b1 => ?_)))
        refine S.y (Y.lk false rfl rfl (fun w => Tryz.zeroValue72 w)) ?_
        rw [e1]
        dsimp only
        refine opsS_ent (L' := chainH M b2 vs :: roM M :: R :: slO 22 1 (some ⟨b, 0, none⟩) ks.length c (ks.map U64) :: slO 40 2 a3 es.length c3 (es.flatMap EV.cells) :: entH es :: vP v mc mi st.dim st.mark :: vC mc cs :: vI mi is :: L) ?_ ?_
        · refine Ent.trans (?_ : Ent _ (chsH M cs :: roM M :: slO 22 1 (some ⟨b, 0, none⟩) ks.length c (ks.map U64) :: slO 40 2 a3 es.length c3 (es.flatMap EV.cells) :: entH es :: vP v mc mi st.dim st.mark :: vC mc cs :: vI mi is :: L)) ?_
          · repeat (first | exact Ent.refl _ | exact Ent.nil | refine Ent.pick ?_ | refine Ent.nilS ?_ | refine Ent.nilM ?_ | refine Ent.drop ?_)
          exact (hR _).1.trans (Ent.cons (Ent.perm (.swap _ _ _)))
        refine S.cr rfl (List_spec M b2 vs _ (by have := hco.2.1; dsimp only at this; omega) (fun w hw => by have := hco.2.2 w hw; omega)) ?_
        rintro _ _ ⟨a5, c5, ovs, hov, rfl, rfl⟩
        repeat (first | (refine GQ.y ?_; refine Q.y ?_) | refine Q.go ?_ | (refine GQ.g ?_; refine Q.gq ?_) | (refine GQ.s ?_; refine Q.st ?_) | (refine GQ.g ?_; refine Q.gd ?_) | refine Q.ct rfl ?_ | refine Q.cf rfl ?_ | (refine GQ.a ?_; refine Q.al (fun b1 => ?_)))
        refine S.app rfl rfl (SrcS.sl RdC.row (by rfl) (by rfl)) (by rfl) (by omega) (by omega) (fun a4 c4 => ?_)
        repeat (first | (refine GQ.y ?_; refine Q.y ?_) | refine Q.go ?_ | (refine GQ.g ?_; refine Q.gq ?_) | (refine GQ.s ?_; refine Q.st ?_) | (refine GQ.g ?_; refine Q.gd ?_) | refine Q.ct rfl ?_ | refine Q.cf rfl ?_ | (refine GQ.a ?_; refine Q.al (fun b1 => ?_)))
        refine ⟨(k + 1, a4, c4, es ++ [⟨x, a5, c5, ovs⟩]), ⟨rfl, rfl, rfl, congrArg some (by simp), rfl, trivial⟩, ?_, ⟨by dsimp only; omega, ?_, fun e he => ?_⟩, by dsimp only; omega⟩
        · dsimp only
          rw [len_snoc, flat_snoc]
          refine Ent.trans ?_ (Ent.cons (Ent.cons ent_snoc))
          dsimp only
          unfold vecsH
          refine Ent.pick (Ent.pick (Ent.pick (Ent.pick (Ent.pick (Ent.pick (Ent.pick (Ent.pick ?_)))))))
          refine Ent.trans ?_ (hR _).2
          repeat (first | exact Ent.refl _ | exact Ent.nil | refine Ent.pick ?_ | refine Ent.nilS ?_ | refine Ent.nilM ?_ | refine Ent.drop ?_)
        · dsimp only
          rw [List.map_append, hes, take_snoc hx, List.map_cons, List.map_nil]
        · rcases List.mem_append.1 he with he | he
          · exact hall e he
          · obtain rfl := List.mem_singleton.1 he
            show (x, ovs.map OV.abs) ∈ st.ch
            rw [hov]; exact hxs
      · exact absurd hux (e3 u hu)
    · have hke : k = ks.length := by omega
      subst hke
      rw [List.take_length] at hes
      repeat (first | (refine GQ.y ?_; refine Q.y ?_) | refine Q.go ?_ | (refine GQ.g ?_; refine Q.gq ?_) | (refine GQ.s ?_; refine Q.st ?_) | (refine GQ.g ?_; refine Q.gd ?_) | refine Q.ct rfl ?_ | refine Q.cf rfl ?_ | (refine GQ.a ?_; refine Q.al (fun b1 => ?_)))
      exact ⟨(a3, c3, es), ⟨congrArg some (by simp), trivial⟩, by repeat (first | exact Ent.refl _ | exact Ent.nil | refine Ent.pick ?_ | refine Ent.nilS ?_ | refine Ent.nilM ?_ | refine Ent.drop ?_), hes, hall⟩
  rintro ⟨a3, c3, es⟩ ⟨hes, hall⟩
  dsimp only at hes hall ⊢
  repeat (first | (refine GQ.y ?_; refine Q.y ?_) | refine Q.go ?_ | (refine GQ.g ?_; refine Q.gq ?_) | (refine GQ.s ?_; refine Q.st ?_) | (refine GQ.g ?_; refine Q.gd ?_) | refine Q.ct rfl ?_ | refine Q.cf rfl ?_ | (refine GQ.a ?_; refine Q.al (fun b1 => ?_)))
  refine N.r1 (RV.tmp rfl RV.nil) (Ent.cons (Ent.cons (vault_shut hok))) ⟨a3, c3, es, rfl, ?_, by rw [hes]; exact hks2, rfl⟩
  refine perm_keys hok.k1 ?_ (fun u hu => by obtain ⟨w, hw, rfl⟩ := List.mem_map.1 hu; exact hall w hw)
  rw [← hok.ch, List.map_map, List.map_map]
  show (es.map (·.id)).Perm (cs.map (·.1))
  rw [hes]; exact hkp
end Go.Proofs.YtieejgbjgcbbjaaGreat
