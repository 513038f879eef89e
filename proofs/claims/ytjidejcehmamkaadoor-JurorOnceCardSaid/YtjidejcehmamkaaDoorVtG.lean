/- The vault: ids, Dump (its length), Intents (its length), Get, Last. No condition. -/
import Derived.Test.YtjidejcehmamkaaDoorVtD
import Derived.Test.YtjidejcehmamkaaDoorKeys
import Derived.Test.YtjidejcehmamkaaDoorSrtK
set_option linter.unusedVariables false
set_option linter.unusedSimpArgs false
namespace Go.Proofs.YtjidejcehmamkaaDoor
open Go Go.SX
attribute [local irreducible] swp opsS thenS blockS retS CallsS St Ent YieldS anyS drawS
theorem chs_mem {M : Nat → Option Obj} {cs : List CR} {x : CR} (h : x ∈ cs) : ∃ R : HP, ∀ L, Ent (chsH M cs :: L) (chainH M x.2.1 x.2.2 :: R :: L) ∧ Ent (chainH M x.2.1 x.2.2 :: R :: L) (chsH M cs :: L) := by
  obtain ⟨p, q, rfl⟩ := List.append_of_mem h
  exact ⟨_, fun L => ⟨chs_out, chs_in⟩⟩
theorem Ids_spec (v mc mi : Nat) (dim mark : Int) (cs : List CR) (A : List HP) (hn : cs.length ≤ 17592186044416) :
    CallsS Tryd.prog 37 [ptrV v] (vP v mc mi dim mark :: vC mc cs :: A) (fun r L' => ∃ a c, r = .slice a cs.length c ∧ L' = slO 30 1 a cs.length c ((sortL (cs.map (·.1))).map U64) :: vP v mc mi dim mark :: vC mc cs :: A) := by
  refine CallsS.of_body Tryd.func37 rfl rfl rfl ?_
  refine Q.r ?_; (repeat (intro b1; refine Q.r ?_))
  refine S.cr rfl (MapKeysC_spec (some mc) _) ?_
  rintro _ _ ⟨bm, rfl, rfl⟩
  refine Q.r ?_; (repeat (intro b1; refine Q.r ?_))
  refine opsS_ent (Ent.cons (Ent.perm (.swap _ _ _))) ?_
  have hs := KeysC_spec ptrV bm mc (cs.map fun c => (c.1, c.2.1)) (vP v mc mi dim mark :: A)
  rw [List.length_map, List.map_map] at hs
  refine S.cr rfl (Sorted_spec _ _ (cs.map (·.1)) _ _ (by rw [List.length_map]; exact hn) (by rw [List.length_map]; exact hs)) ?_
  rintro _ _ ⟨a, c, rfl, rfl⟩
  refine Q.r ?_; (repeat (intro b1; refine Q.r ?_))
  rw [List.length_map]
  exact N.r1 (RV.tmp rfl RV.nil) (Ent.cons (Ent.perm (.swap _ _ _))) ⟨a, c, rfl, rfl⟩
theorem sortL_mem {ks : List Int} {k : Nat} {x : Int} (h : (sortL ks)[k]? = some x) : x ∈ ks := (sortL_perm ks).mem_iff.1 (List.mem_of_getElem? h)
end Go.Proofs.YtjidejcehmamkaaDoor
/- The vault: Get, Last. No condition. -/
namespace Go.Proofs.YtjidejcehmamkaaDoor
open Go Go.SX
attribute [local irreducible] swp opsS thenS blockS retS CallsS St Ent YieldS anyS drawS
def getV (st : VS) (id s : Int) : List Int := if openE st s [id] ≠ 0 then [] else atV (chV st.ch id) s
end Go.Proofs.YtjidejcehmamkaaDoor
/- The vault's law: Few, awake. No condition. -/
namespace Go.Proofs.YtjidejcehmamkaaDoor
open Go Go.SX
attribute [local irreducible] swp opsS thenS blockS retS CallsS St Ent YieldS anyS drawS
def fewV (k : Nat) (ops : VL) : VL := (ops.take k).map fun o => (o.1, o.2.take 10)
theorem fewV_all {n : Nat} {l : VL} (h : l.length ≤ n) : fewV n l = l.map fun o => (o.1, o.2.take 10) := by unfold fewV; rw [List.take_of_length_le h]
set_option maxHeartbeats 1000000 in
theorem FewA_spec (n : Nat) (a : Option Addr) (c : Nat) (ops : List OV) (A : List HP) (h : RdO A a ops) (hc : ∀ o ∈ ops, o.vec.length ≤ o.c) (hn : ops.length ≤ 9223372036854775807) (hnn : n ≤ 1000000) :
    CallsS Tryd.prog 12 [.slice a ops.length c, .int .i64 n] A (fun v L' => ∃ (a' : Option Addr) (c' : Nat) (us : List OV), us.map OV.abs = fewV n (ops.map OV.abs) ∧ (∀ o ∈ us, o.vec.length = 0 ∨ ∃ b, o.a = some ⟨b, 0, none⟩) ∧ v = .slice a' us.length c' ∧ L' = slO 73 2 a' us.length c' (us.flatMap OV.cells) :: vecsH us :: A) := by
  refine CallsS.of_body Tryd.func12 rfl rfl rfl ?_
  refine Q.r ?_; (repeat (intro b1; refine Q.r ?_))
  refine swp_loop (σ := Nat × Option Addr × Nat × List OV) (fun s => [(1, .int .i64 n), (8, .slice a ops.length c), (9, .int .i64 ops.length), (5, .slice s.2.1 s.2.2.2.length s.2.2.1), (10, .int .i64 s.1)])
    (fun s => slO 73 2 s.2.1 s.2.2.2.length s.2.2.1 (s.2.2.2.flatMap OV.cells) :: vecsH s.2.2.2 :: A)
    (fun s => s.1 ≤ ops.length ∧ s.2.2.2.map OV.abs = fewV n ((ops.take s.1).map OV.abs) ∧ ∀ o ∈ s.2.2.2, o.vec.length = 0 ∨ ∃ b, o.a = some ⟨b, 0, none⟩) (fun s => ops.length - s.1) (0, none, 0, []) ⟨rfl, rfl, rfl, rfl, rfl, trivial⟩ ?_ ⟨by omega, by simp [fewV], by simp⟩ ?_
  · exact Ent.trans (Ent.trans bodV_nil slO_nil) (Ent.refl _)
  rintro ⟨k, a3, c3, us⟩ ⟨hk, hus, hua⟩
  dsimp only at hk hus hua ⊢
  have hul : us.length = min n k := by
    have := congrArg List.length hus
    simp [fewV] at this; omega
  by_cases hlt : k < ops.length
  · obtain ⟨o, ho⟩ := mem_get hlt
    have hmo : o ∈ ops := List.mem_of_getElem? ho
    obtain ⟨b, oo, hia, hr⟩ := RdS.elem (g := OV.cells) (fun _ => rfl) h.1 ho rfl
    rw [hia]
    repeat (first | (refine GQ.y ?_; refine Q.y ?_) | refine Q.go ?_ | (refine GQ.g ?_; refine Q.gq ?_) | (refine GQ.s ?_; refine Q.st ?_) | (refine GQ.a ?_; refine Q.al (fun b1 => ?_)))
    by_cases hkn : k < n
    · refine Q.r ?_; (repeat (intro b1; refine Q.r ?_))
      refine Q.dgo [true, false, false] [5, 7, 8] [] [0, 1, 2, 3, 4, 5, 6, 7, 8, 9] ?_
      refine Q.rd ?_; (repeat (intro b1; refine Q.rd ?_))
      refine D.e rfl rfl rfl ?_
      refine S.cr rfl (CutVec_spec o.a o.c 10 o.vec _ ((h.2 o hmo).sub) (hc o hmo) (by omega)) ?_
      rintro _ _ ⟨a', c', rfl, rfl⟩
      refine opsS_addr a' (fun ha' => ?_)
      refine Q.r ?_; (repeat (intro b1; refine Q.r ?_))
      refine Q.rd ?_; (repeat (intro b1; refine Q.rd ?_))
      refine D.e rfl rfl rfl ?_
      refine S.app rfl rfl (SrcS.sl RdC.row (by rfl) (by rfl)) (by rfl) (by omega) (by omega) (fun a4 c4 => ?_)
      refine Q.r ?_; (repeat (intro b1; refine Q.r ?_))
      refine Q.rd ?_; (repeat (intro b1; refine Q.rd ?_))
      refine Q.r ?_; (repeat (intro b1; refine Q.r ?_))
      refine ⟨(k + 1, a4, c4, us ++ [⟨o.id, a', c', o.vec.take 10⟩]), ⟨rfl, rfl, rfl, congrArg some (by simp), rfl, trivial⟩, ?_, ⟨by dsimp only; omega, ?_, ?_⟩, by dsimp only; omega⟩
      · dsimp only
        rw [len_snoc, flat_snoc]
        refine Ent.pick (Ent.trans ?_ (vecs_snoc (o := ⟨o.id, a', c', o.vec.take 10⟩) rfl))
        repeat (first | exact Ent.refl _ | exact Ent.nil | refine Ent.pick ?_ | refine Ent.nilS ?_ | refine Ent.nilM ?_ | refine Ent.drop ?_)
      · dsimp only
        rw [List.map_append, hus, fewV_all (l := (ops.take k).map OV.abs) (by simp; omega), fewV_all (l := (ops.take (k + 1)).map OV.abs) (by simp; omega), take_snoc ho, List.map_append, List.map_append]; rfl
      · intro u hu
        rcases List.mem_append.1 hu with hu | hu
        · exact hua u hu
        · obtain rfl := List.mem_singleton.1 hu
          exact ha'
    · refine Q.r ?_; (repeat (intro b1; refine Q.r ?_))
      refine ⟨(k + 1, a3, c3, us), ⟨rfl, rfl, rfl, rfl, rfl, trivial⟩, by repeat (first | exact Ent.refl _ | exact Ent.nil | refine Ent.pick ?_ | refine Ent.nilS ?_ | refine Ent.nilM ?_ | refine Ent.drop ?_), ⟨by dsimp only; omega, ?_, hua⟩, by dsimp only; omega⟩
      dsimp only
      rw [hus]
      unfold fewV
      rw [← List.map_take, ← List.map_take, List.take_take, List.take_take, show min n k = min n (k + 1) by omega]
  · have hke : k = ops.length := by omega
    subst hke
    rw [List.take_length] at hus
    refine Q.r ?_; (repeat (intro b1; refine Q.r ?_))
    exact N.r1 (RV.tmp rfl RV.nil) (by repeat (first | exact Ent.refl _ | exact Ent.nil | refine Ent.pick ?_ | refine Ent.nilS ?_ | refine Ent.nilM ?_ | refine Ent.drop ?_)) ⟨a3, c3, us, hus, hua, rfl, rfl⟩
theorem Few_spec (n : Nat) (a : Option Addr) (c : Nat) (ops : List OV) (A : List HP) (h : RdO A a ops) (hc : ∀ o ∈ ops, o.vec.length ≤ o.c) (hn : ops.length ≤ 9223372036854775807) (hnn : n ≤ 1000000) :
    CallsS Tryd.prog 12 [.slice a ops.length c, .int .i64 n] A (fun v L' => ∃ (a' : Option Addr) (c' : Nat) (us : List OV), us.map OV.abs = fewV n (ops.map OV.abs) ∧ v = .slice a' us.length c' ∧ L' = slO 73 2 a' us.length c' (us.flatMap OV.cells) :: vecsH us :: A) :=
  (FewA_spec n a c ops A h hc hn hnn).mono fun v L' ⟨a', c', us, h1, _, h2, h3⟩ => ⟨a', c', us, h1, h2, h3⟩
theorem WF0 (d : Int) (h1 : 1 ≤ d) (h2 : d ≤ 8) (n : Nat) : WF ⟨d, [], [], 0⟩ n := ⟨h1, h2, Nat.zero_le _, by simp, Nat.zero_le _, by simp⟩
theorem aw_lock : lockE ⟨1, [], [], 0⟩ 7 3 [(1, [5])] = 0 := by decide
theorem aw_lockS : lockS ⟨1, [], [], 0⟩ 7 3 [(1, [5])] = ⟨1, [], [(7, 3, [(1, [5])])], 0⟩ := by unfold lockS; rw [if_pos aw_lock]; rfl
theorem aw_wf : WF ⟨1, [], [(7, 3, [(1, [5])])], 0⟩ 1 := ⟨by decide, by decide, by decide, by simp; decide, by decide, by simp⟩
theorem aw_b3 : blockedV ⟨1, [], [(7, 3, [(1, [5])])], 0⟩ 3 [1] = false := by decide
theorem aw_b4 : blockedV ⟨1, [], [(7, 3, [(1, [5])])], 0⟩ 4 [1] = true := by decide
theorem aw_lock2 : lockE ⟨1, [], [(7, 3, [(1, [5])])], 0⟩ 8 0 [(1, [5])] = 11 := by decide
theorem aw_lock2S : lockS ⟨1, [], [(7, 3, [(1, [5])])], 0⟩ 8 0 [(1, [5])] = ⟨1, [], [(7, 3, [(1, [5])])], 0⟩ := by unfold lockS; rw [if_neg (by rw [aw_lock2]; decide)]
theorem aw_a3 : applyE ⟨1, [], [(7, 3, [(1, [5])])], 0⟩ 7 3 = 1 := by decide
theorem aw_a4 : applyE ⟨1, [], [(7, 3, [(1, [5])])], 0⟩ 7 4 = 0 := by decide
end Go.Proofs.YtjidejcehmamkaaDoor
