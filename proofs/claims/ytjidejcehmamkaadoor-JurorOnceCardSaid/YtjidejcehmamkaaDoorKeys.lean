/- maps.Keys at maps with keys of type uint64, walked. No condition. -/
import Derived.Test.YtjidejcehmamkaaDoorSeq
set_option linter.unusedVariables false
set_option linter.unusedSimpArgs false
namespace Go.Proofs.YtjidejcehmamkaaDoor
open Go Go.SX
attribute [local irreducible] swp opsS thenS blockS retS CallsS St Ent YieldS anyS drawS
attribute [local irreducible] opsI
theorem KeysI_spec {α : Type} (rr : α → Value) (bm b : Nat) (m : List (Int × α)) (A : List HP) : SeqS Tryd.prog 77 [.pointer (some ⟨bm, 0, none⟩)] U64 m.length (fun ks => ks.Perm (m.map (·.1)))
    (pt bm (cl [.map (some b)] 75) :: mpO U64 rr b m :: A) (mpO U64 rr b m :: A) := by
  intro l J hJ
  refine CallsS.of_body Tryd.func77 rfl rfl rfl ?_
  refine Q.r ?_; (repeat (intro b1; refine Q.r ?_))
  refine S.rg rfl (fun r => ?_)
  refine Q.r ?_; (repeat (intro b1; refine Q.r ?_))
  refine swp_loop (σ := List Nat) (fun vis => [(0, .func (.yield l) #[] #[]), (5, .pointer (some ⟨r, 0, none⟩))])
    (fun vis => J (vis.filterMap fun i => (m[i]?).map (·.1)) :: itO U64 rr b r m vis :: A) (fun vis => vis.Nodup ∧ ∀ i ∈ vis, i < m.length) (fun vis => m.length - vis.length) [] ⟨rfl, rfl, trivial⟩ (by simp only [List.filterMap_nil]; repeat (first | exact Ent.refl _ | exact Ent.nil | refine Ent.pick ?_ | refine Ent.nilS ?_ | refine Ent.nilM ?_ | refine Ent.drop ?_)) ⟨by simp, by simp⟩ ?_
  rintro vis ⟨hv1, hv2⟩
  refine Q.r ?_; (repeat (intro b1; refine Q.r ?_))
  refine S.nx rfl (fun hend => ?_) (fun i p hp hi => ?_)
  · refine Q.r ?_; (repeat (intro b1; refine Q.r ?_))
    exact N.n0 RV.nil (Ent.cons itO_map) ⟨_, vis_map _ hv1 hv2 hend, rfl⟩
  · have hil : i < m.length := (List.getElem?_eq_some_iff.1 hp).1
    obtain ⟨hm1, hm2, hm3⟩ := vis_more hv1 hv2 hil hi
    have hvl : (vis.filterMap fun i => (m[i]?).map (·.1)).length ≤ vis.length := List.length_filterMap_le _ _
    have happ : ((vis ++ [i]).filterMap fun i => (m[i]?).map (·.1)) = (vis.filterMap fun i => (m[i]?).map (·.1)) ++ [p.1] := by
      rw [List.filterMap_append]; simp [hp]
    refine Q.r ?_; (repeat (intro b1; refine Q.r ?_))
    refine S.y (Y.en rfl hp) ?_
    refine S.y (Y.ext rfl rfl) ?_
    refine S.y (Y.as rfl) ?_
    refine opsS_nil ?_
    refine N.tn ?_
    refine swp_seq ?_
    refine swp_regionI ?_
    refine opsI_one (fun _ h => by cases h) rfl ?_
    refine Q.r ?_; (repeat (intro b1; refine Q.r ?_))
    refine opsI_one (fun _ h => by cases h) rfl ?_
    refine Q.r ?_; (repeat (intro b1; refine Q.r ?_))
    refine opsI_yield rfl rfl ((hJ _ p.1 (by omega)).frame (R := _)) ?_
    refine opsI_one (fun _ h => by cases h) rfl ?_
    refine Q.r ?_; (repeat (intro b1; refine Q.r ?_))
    refine opsI_nil ?_
    refine Q.r ?_; (repeat (intro b1; refine Q.r ?_))
    refine ⟨vis ++ [i], ⟨rfl, rfl, trivial⟩, ?_, ⟨hm1, hm2⟩, by simp; omega⟩
    rw [happ]
    repeat (first | exact Ent.refl _ | exact Ent.nil | refine Ent.pick ?_ | refine Ent.nilS ?_ | refine Ent.nilM ?_ | refine Ent.drop ?_)
theorem MapKeysI_spec (mo : Option Nat) (L : List HP) : CallsS Tryd.prog 72 [.map mo] L
    (fun v L' => ∃ bm, v = .func (.func 77) #[] [.pointer (some ⟨bm, 0, none⟩)].toArray ∧ L' = pt bm (cl [.map mo] 75) :: L) := by
  refine CallsS.of_body Tryd.func72 rfl rfl rfl ?_
  refine Q.r ?_; (repeat (intro b1; refine Q.r ?_))
  refine S.y (Y.mf rfl rfl) ?_
  refine Q.r ?_; (repeat (intro b1; refine Q.r ?_))
  exact N.r1 (RV.tmp rfl RV.nil) (Ent.refl _) ⟨_, rfl, rfl⟩
theorem KeysC_spec {α : Type} (rr : α → Value) (bm b : Nat) (m : List (Int × α)) (A : List HP) : SeqS Tryd.prog 68 [.pointer (some ⟨bm, 0, none⟩)] U64 m.length (fun ks => ks.Perm (m.map (·.1)))
    (pt bm (cl [.map (some b)] 74) :: mpO U64 rr b m :: A) (mpO U64 rr b m :: A) := by
  intro l J hJ
  refine CallsS.of_body Tryd.func68 rfl rfl rfl ?_
  refine Q.r ?_; (repeat (intro b1; refine Q.r ?_))
  refine S.rg rfl (fun r => ?_)
  refine Q.r ?_; (repeat (intro b1; refine Q.r ?_))
  refine swp_loop (σ := List Nat) (fun vis => [(0, .func (.yield l) #[] #[]), (5, .pointer (some ⟨r, 0, none⟩))])
    (fun vis => J (vis.filterMap fun i => (m[i]?).map (·.1)) :: itO U64 rr b r m vis :: A) (fun vis => vis.Nodup ∧ ∀ i ∈ vis, i < m.length) (fun vis => m.length - vis.length) [] ⟨rfl, rfl, trivial⟩ (by simp only [List.filterMap_nil]; repeat (first | exact Ent.refl _ | exact Ent.nil | refine Ent.pick ?_ | refine Ent.nilS ?_ | refine Ent.nilM ?_ | refine Ent.drop ?_)) ⟨by simp, by simp⟩ ?_
  rintro vis ⟨hv1, hv2⟩
  refine Q.r ?_; (repeat (intro b1; refine Q.r ?_))
  refine S.nx rfl (fun hend => ?_) (fun i p hp hi => ?_)
  · refine Q.r ?_; (repeat (intro b1; refine Q.r ?_))
    exact N.n0 RV.nil (Ent.cons itO_map) ⟨_, vis_map _ hv1 hv2 hend, rfl⟩
  · have hil : i < m.length := (List.getElem?_eq_some_iff.1 hp).1
    obtain ⟨hm1, hm2, hm3⟩ := vis_more hv1 hv2 hil hi
    have hvl : (vis.filterMap fun i => (m[i]?).map (·.1)).length ≤ vis.length := List.length_filterMap_le _ _
    have happ : ((vis ++ [i]).filterMap fun i => (m[i]?).map (·.1)) = (vis.filterMap fun i => (m[i]?).map (·.1)) ++ [p.1] := by
      rw [List.filterMap_append]; simp [hp]
    refine Q.r ?_; (repeat (intro b1; refine Q.r ?_))
    refine S.y (Y.en rfl hp) ?_
    refine S.y (Y.ext rfl rfl) ?_
    refine S.y (Y.as rfl) ?_
    refine opsS_nil ?_
    refine N.tn ?_
    refine swp_seq ?_
    refine swp_regionI ?_
    refine opsI_one (fun _ h => by cases h) rfl ?_
    refine Q.r ?_; (repeat (intro b1; refine Q.r ?_))
    refine opsI_one (fun _ h => by cases h) rfl ?_
    refine Q.r ?_; (repeat (intro b1; refine Q.r ?_))
    refine opsI_yield rfl rfl ((hJ _ p.1 (by omega)).frame (R := _)) ?_
    refine opsI_one (fun _ h => by cases h) rfl ?_
    refine Q.r ?_; (repeat (intro b1; refine Q.r ?_))
    refine opsI_nil ?_
    refine Q.r ?_; (repeat (intro b1; refine Q.r ?_))
    refine ⟨vis ++ [i], ⟨rfl, rfl, trivial⟩, ?_, ⟨hm1, hm2⟩, by simp; omega⟩
    rw [happ]
    repeat (first | exact Ent.refl _ | exact Ent.nil | refine Ent.pick ?_ | refine Ent.nilS ?_ | refine Ent.nilM ?_ | refine Ent.drop ?_)
theorem MapKeysC_spec (mo : Option Nat) (L : List HP) : CallsS Tryd.prog 56 [.map mo] L
    (fun v L' => ∃ bm, v = .func (.func 68) #[] [.pointer (some ⟨bm, 0, none⟩)].toArray ∧ L' = pt bm (cl [.map mo] 74) :: L) := by
  refine CallsS.of_body Tryd.func56 rfl rfl rfl ?_
  refine Q.r ?_; (repeat (intro b1; refine Q.r ?_))
  refine S.y (Y.mf rfl rfl) ?_
  refine Q.r ?_; (repeat (intro b1; refine Q.r ?_))
  exact N.r1 (RV.tmp rfl RV.nil) (Ent.refl _) ⟨_, rfl, rfl⟩
end Go.Proofs.YtjidejcehmamkaaDoor
