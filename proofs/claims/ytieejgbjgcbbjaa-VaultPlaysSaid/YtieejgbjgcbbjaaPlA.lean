/- VaultPlays: the law, walked. No condition. -/
import Derived.Test.YtieejgbjgcbbjaaNilB
set_option linter.unusedVariables false
set_option linter.unusedSimpArgs false
namespace Go.Proofs.Ytieejgbjgcbbjaa
open Go Go.SX
attribute [local irreducible] swp opsS thenS blockS retS CallsS St Ent YieldS anyS drawS
/-- What a step that came in is known to be. -/
def DOK (M : Nat → Option Obj) (o : DV) : Prop := (SlM M o.a o.ops.length 2 (o.ops.flatMap OV.cells) ∧ okR M o.ops) ∧ (∀ u ∈ o.ops, u.vec.length ≤ u.c) ∧ o.ops.length ≤ 9223372036854775807 ∧ 0 ≤ o.stamp ∧ SlM M o.ia o.ids.length 1 (o.ids.map U64) ∧ o.ids.length ≤ o.ic ∧ o.ids.length ≤ 9223372036854775807
theorem DOK.mono {M M' : Nat → Option Obj} {o : DV} (h : DOK M o) (hl : leM M M') : DOK M' o :=
  ⟨⟨h.1.1.mono hl, fun u hu => (h.1.2 u hu).mono hl⟩, h.2.1, h.2.2.1, h.2.2.2.1, h.2.2.2.2.1.mono hl, h.2.2.2.2.2⟩
set_option maxHeartbeats 4000000 in
theorem VaultPlays_spec (no : Bool) (dim : Int) (a : Option Addr) (c : Nat) (xs : List DV) (M : Nat → Option Obj)
    (h : SlM M a xs.length 8 (xs.flatMap DV.cells)) (hx : ∀ o ∈ xs, DOK M o) (hn : xs.length ≤ 9223372036854775807) :
    CallsS Try.prog 7 [.bool no, .int .i64 dim, .slice a xs.length c] [roM M] (fun v _ => v = .bool true) := by
  refine CallsS.of_body Try.func7 rfl rfl rfl ?_
  repeat (first | (refine GQ.y ?_; refine Q.y ?_) | refine Q.go ?_ | (refine GQ.g ?_; refine Q.gq ?_) | (refine GQ.s ?_; refine Q.st ?_) | (refine GQ.g ?_; refine Q.gd ?_) | refine Q.ct rfl ?_ | refine Q.cf rfl ?_ | (refine GQ.a ?_; refine Q.al (fun b1 => ?_)))
  refine S.cr rfl (awake_spec _) ?_
  rintro _ _ ⟨rfl, rfl⟩
  repeat (first | (refine GQ.y ?_; refine Q.y ?_) | refine Q.go ?_ | (refine GQ.g ?_; refine Q.gq ?_) | (refine GQ.s ?_; refine Q.st ?_) | (refine GQ.g ?_; refine Q.gd ?_) | refine Q.ct rfl ?_ | refine Q.cf rfl ?_ | (refine GQ.a ?_; refine Q.al (fun b1 => ?_)))
  by_cases hd : (1 ≤ dim ∧ dim ≤ 8) ∧ no = false
  · obtain ⟨⟨hd1, hd2⟩, rfl⟩ := hd
    refine S.cr rfl (New_spec dim _ hd1 hd2) ?_
    rintro _ _ ⟨v, rfl, rfl⟩
    repeat (first | (refine GQ.y ?_; refine Q.y ?_) | refine Q.go ?_ | (refine GQ.g ?_; refine Q.gq ?_) | (refine GQ.s ?_; refine Q.st ?_) | (refine GQ.g ?_; refine Q.gd ?_) | refine Q.ct rfl ?_ | refine Q.cf rfl ?_ | (refine GQ.a ?_; refine Q.al (fun b1 => ?_)))
    refine swp_cutB (σ := Unit) (fun _ => []) (fun _ => []) (fun _ => True) ?_ ?_
    · refine swp_loop (σ := Nat × VS × (Nat → Option Obj)) (fun u => [(7, ptrV v), (10, ptrV b1), (52, .slice a xs.length c), (53, .int .i64 xs.length), (54, .int .i64 u.1)]) (fun u => vaultH v u.2.1 :: refH b1 u.2.1 :: roM u.2.2 :: [])
        (fun u => u.1 ≤ xs.length ∧ u.1 ≤ 40 ∧ WFK u.2.1 u.1 ∧ leM M u.2.2) (fun u => xs.length - u.1) (0, ⟨dim, [], [], 0⟩, M) ⟨rfl, rfl, rfl, rfl, rfl, trivial⟩ ?_ ⟨by omega, by omega, ⟨WF0 dim hd1 hd2 _, by simp [keysOK], by simp [keysOK]⟩, leM.refl M⟩ ?_
      · dsimp only
        refine Ent.trans (?_ : Ent _ (vaultH v ⟨dim, [], [], 0⟩ :: rP b1 dim none [] 0 none [] 0 0 :: roM M :: [])) ?_
        · repeat (first | exact Ent.refl _ | exact Ent.nil | refine Ent.pick ?_ | refine Ent.nilS ?_ | refine Ent.nilM ?_ | refine Ent.drop ?_)
        refine Ent.cons ?_
        refine Ent.trans (Ent.cons (Ent.nilM (Ent.refl _))) ?_
        exact ref_shut (p := b1) (st := ⟨dim, [], [], 0⟩) (es := []) (is := []) (a := none) (a' := none) (c := 0) (c' := 0) ⟨by simp, by simp, by simp, by simp, by simp, by simp, ⟨rfl, .inl rfl⟩, ⟨rfl, .inl rfl⟩, by simp, by simp, by simp [keysOK], by simp [keysOK], by simp⟩
      rintro ⟨k, st, M1⟩ ⟨hk, hk40, hwf, hl1⟩
      dsimp only at hk hk40 hwf hl1 ⊢
      by_cases hlt : k < xs.length
      · obtain ⟨o, ho⟩ := mem_get hlt
        have hdo := (hx o (List.mem_of_getElem? ho)).mono hl1
        have hrs : RdS (vaultH v st :: refH b1 st :: roM M1 :: []) a xs.length 8 (xs.flatMap DV.cells) := (SlM.mono h hl1).rd
        obtain ⟨b, oo, hia, hr⟩ := RdS.elem (g := DV.cells) (fun _ => rfl) hrs ho rfl
        rw [hia]
        by_cases h40 : (40 : Int) ≤ k
        · repeat (first | (refine GQ.y ?_; refine Q.y ?_) | refine Q.go ?_ | (refine GQ.g ?_; refine Q.gq ?_) | (refine GQ.s ?_; refine Q.st ?_) | (refine GQ.g ?_; refine Q.gd ?_) | refine Q.ct rfl ?_ | refine Q.cf rfl ?_ | (refine GQ.a ?_; refine Q.al (fun b1 => ?_)))
          exact ⟨(), trivial, by repeat (first | exact Ent.refl _ | exact Ent.nil | refine Ent.pick ?_ | refine Ent.nilS ?_ | refine Ent.nilM ?_ | refine Ent.drop ?_), trivial⟩
        · repeat (first | (refine GQ.y ?_; refine Q.y ?_) | refine Q.go ?_ | (refine GQ.g ?_; refine Q.gq ?_) | (refine GQ.s ?_; refine Q.st ?_) | (refine GQ.g ?_; refine Q.gd ?_) | refine Q.ct rfl ?_ | refine Q.cf rfl ?_ | (refine GQ.a ?_; refine Q.al (fun b1 => ?_)))
          rename_i bp
          refine opsS_ent (L' := vaultH v st :: refH bp st :: roM M1 :: [pt b1 (cl o.cells 39)]) (by repeat (first | exact Ent.refl _ | exact Ent.nil | refine Ent.pick ?_ | refine Ent.nilS ?_ | refine Ent.nilM ?_ | refine Ent.drop ?_)) ?_
          refine S.cr rfl (Do_spec v bp st k o M1 _ hwf.wf (by omega) hdo.1 hdo.2.1 hdo.2.2.1 hdo.2.2.2.1) ?_
          rintro _ _ ⟨rfl, M2, hl2, rfl⟩
          have hwf2 := hwf.do_ o
          generalize doS st o = st2 at hwf2 ⊢
          have hdo2 := hdo.mono hl2
          repeat (first | (refine GQ.y ?_; refine Q.y ?_) | refine Q.go ?_ | (refine GQ.g ?_; refine Q.gq ?_) | (refine GQ.s ?_; refine Q.st ?_) | (refine GQ.g ?_; refine Q.gd ?_) | refine Q.ct rfl ?_ | refine Q.cf rfl ?_ | (refine GQ.a ?_; refine Q.al (fun b1 => ?_)))
          refine opsS_ent (L' := vaultH v st2 :: refH bp st2 :: roM M2 :: [pt b1 (cl o.cells 39)]) (by repeat (first | exact Ent.refl _ | exact Ent.nil | refine Ent.pick ?_ | refine Ent.nilS ?_ | refine Ent.nilM ?_ | refine Ent.drop ?_)) ?_
          refine S.cr rfl (asks_spec v bp st2 (k + 1) o M2 _ hwf2.wf (by omega) hdo2.2.2.2.2.1 hdo2.2.2.2.2.2.1 hdo2.2.2.2.2.2.2) ?_
          rintro _ _ ⟨rfl, M3, hl3, rfl⟩
          repeat (first | (refine GQ.y ?_; refine Q.y ?_) | refine Q.go ?_ | (refine GQ.g ?_; refine Q.gq ?_) | (refine GQ.s ?_; refine Q.st ?_) | (refine GQ.g ?_; refine Q.gd ?_) | refine Q.ct rfl ?_ | refine Q.cf rfl ?_ | (refine GQ.a ?_; refine Q.al (fun b1 => ?_)))
          refine ⟨(k + 1, st2, M3), ⟨rfl, rfl, rfl, rfl, rfl, trivial⟩, by repeat (first | exact Ent.refl _ | exact Ent.nil | refine Ent.pick ?_ | refine Ent.nilS ?_ | refine Ent.nilM ?_ | refine Ent.drop ?_), ⟨by dsimp only; omega, by dsimp only; omega, hwf2, hl1.trans (hl2.trans hl3)⟩, by dsimp only; omega⟩
      · have hke : k = xs.length := by omega
        subst hke
        repeat (first | (refine GQ.y ?_; refine Q.y ?_) | refine Q.go ?_ | (refine GQ.g ?_; refine Q.gq ?_) | (refine GQ.s ?_; refine Q.st ?_) | (refine GQ.g ?_; refine Q.gd ?_) | refine Q.ct rfl ?_ | refine Q.cf rfl ?_ | (refine GQ.a ?_; refine Q.al (fun b1 => ?_)))
        exact ⟨(), trivial, by repeat (first | exact Ent.refl _ | exact Ent.nil | refine Ent.pick ?_ | refine Ent.nilS ?_ | refine Ent.nilM ?_ | refine Ent.drop ?_), trivial⟩
    rintro ⟨⟩ -
    repeat (first | (refine GQ.y ?_; refine Q.y ?_) | refine Q.go ?_ | (refine GQ.g ?_; refine Q.gq ?_) | (refine GQ.s ?_; refine Q.st ?_) | (refine GQ.g ?_; refine Q.gd ?_) | refine Q.ct rfl ?_ | refine Q.cf rfl ?_ | (refine GQ.a ?_; refine Q.al (fun b1 => ?_)))
    exact N.r1 (RV.tmp rfl RV.nil) (Ent.refl _) rfl
  by_cases hd3 : 1 ≤ dim ∧ dim ≤ 8
  · obtain ⟨hd1, hd2⟩ := hd3
    have hno : no = true := by
      cases no with
      | true => rfl
      | false => exact absurd ⟨⟨hd1, hd2⟩, rfl⟩ hd
    subst hno
    refine S.cr rfl (New_spec dim _ hd1 hd2) ?_
    rintro _ _ ⟨v, rfl, rfl⟩
    repeat (first | (refine GQ.y ?_; refine Q.y ?_) | refine Q.go ?_ | (refine GQ.g ?_; refine Q.gq ?_) | (refine GQ.s ?_; refine Q.st ?_) | (refine GQ.g ?_; refine Q.gd ?_) | refine Q.ct rfl ?_ | refine Q.cf rfl ?_ | (refine GQ.a ?_; refine Q.al (fun b1 => ?_)))
    refine swp_cutB (σ := Unit) (fun _ => []) (fun _ => []) (fun _ => True) ?_ ?_
    · refine swp_loop (σ := Nat × (Nat → Option Obj)) (fun u => [(7, pN), (10, pN), (52, .slice a xs.length c), (53, .int .i64 xs.length), (54, .int .i64 u.1)]) (fun u => roM u.2 :: [])
        (fun u => u.1 ≤ xs.length ∧ leM M u.2) (fun u => xs.length - u.1) (0, M) ⟨rfl, rfl, rfl, rfl, rfl, trivial⟩ (by repeat (first | exact Ent.refl _ | exact Ent.nil | refine Ent.pick ?_ | refine Ent.nilS ?_ | refine Ent.nilM ?_ | refine Ent.drop ?_)) ⟨by omega, leM.refl M⟩ ?_
      rintro ⟨k, M1⟩ ⟨hk, hl1⟩
      dsimp only at hk hl1 ⊢
      by_cases hlt : k < xs.length
      · obtain ⟨o, ho⟩ := mem_get hlt
        have hdo := (hx o (List.mem_of_getElem? ho)).mono hl1
        have hrs : RdS (roM M1 :: []) a xs.length 8 (xs.flatMap DV.cells) := (SlM.mono h hl1).rd
        obtain ⟨b, oo, hia, hr⟩ := RdS.elem (g := DV.cells) (fun _ => rfl) hrs ho rfl
        rw [hia]
        by_cases h40 : (40 : Int) ≤ k
        · repeat (first | (refine GQ.y ?_; refine Q.y ?_) | refine Q.go ?_ | (refine GQ.g ?_; refine Q.gq ?_) | (refine GQ.s ?_; refine Q.st ?_) | (refine GQ.g ?_; refine Q.gd ?_) | refine Q.ct rfl ?_ | refine Q.cf rfl ?_ | (refine GQ.a ?_; refine Q.al (fun b1 => ?_)))
          exact ⟨(), trivial, by repeat (first | exact Ent.refl _ | exact Ent.nil | refine Ent.pick ?_ | refine Ent.nilS ?_ | refine Ent.nilM ?_ | refine Ent.drop ?_), trivial⟩
        · repeat (first | (refine GQ.y ?_; refine Q.y ?_) | refine Q.go ?_ | (refine GQ.g ?_; refine Q.gq ?_) | (refine GQ.s ?_; refine Q.st ?_) | (refine GQ.g ?_; refine Q.gd ?_) | refine Q.ct rfl ?_ | refine Q.cf rfl ?_ | (refine GQ.a ?_; refine Q.al (fun b1 => ?_)))
          refine opsS_ent (L' := roM M1 :: [pt b1 (cl o.cells 39)]) (by repeat (first | exact Ent.refl _ | exact Ent.nil | refine Ent.pick ?_ | refine Ent.nilS ?_ | refine Ent.nilM ?_ | refine Ent.drop ?_)) ?_
          refine S.cr rfl (DoN_spec o M1 _ hdo.1 hdo.2.1 hdo.2.2.1 hdo.2.2.2.1) ?_
          rintro _ _ ⟨rfl, M2, hl2, rfl⟩
          have hdo2 := hdo.mono hl2
          repeat (first | (refine GQ.y ?_; refine Q.y ?_) | refine Q.go ?_ | (refine GQ.g ?_; refine Q.gq ?_) | (refine GQ.s ?_; refine Q.st ?_) | (refine GQ.g ?_; refine Q.gd ?_) | refine Q.ct rfl ?_ | refine Q.cf rfl ?_ | (refine GQ.a ?_; refine Q.al (fun b1 => ?_)))
          refine opsS_ent (L' := roM M2 :: [pt b1 (cl o.cells 39)]) (by repeat (first | exact Ent.refl _ | exact Ent.nil | refine Ent.pick ?_ | refine Ent.nilS ?_ | refine Ent.nilM ?_ | refine Ent.drop ?_)) ?_
          refine S.cr rfl (asksN_spec o M2 _ hdo2.2.2.2.2.1 hdo2.2.2.2.2.2.1 hdo2.2.2.2.2.2.2) ?_
          rintro _ _ ⟨rfl, M3, hl3, rfl⟩
          repeat (first | (refine GQ.y ?_; refine Q.y ?_) | refine Q.go ?_ | (refine GQ.g ?_; refine Q.gq ?_) | (refine GQ.s ?_; refine Q.st ?_) | (refine GQ.g ?_; refine Q.gd ?_) | refine Q.ct rfl ?_ | refine Q.cf rfl ?_ | (refine GQ.a ?_; refine Q.al (fun b1 => ?_)))
          refine ⟨(k + 1, M3), ⟨rfl, rfl, rfl, rfl, rfl, trivial⟩, by repeat (first | exact Ent.refl _ | exact Ent.nil | refine Ent.pick ?_ | refine Ent.nilS ?_ | refine Ent.nilM ?_ | refine Ent.drop ?_), ⟨by dsimp only; omega, hl1.trans (hl2.trans hl3)⟩, by dsimp only; omega⟩
      · have hke : k = xs.length := by omega
        subst hke
        repeat (first | (refine GQ.y ?_; refine Q.y ?_) | refine Q.go ?_ | (refine GQ.g ?_; refine Q.gq ?_) | (refine GQ.s ?_; refine Q.st ?_) | (refine GQ.g ?_; refine Q.gd ?_) | refine Q.ct rfl ?_ | refine Q.cf rfl ?_ | (refine GQ.a ?_; refine Q.al (fun b1 => ?_)))
        exact ⟨(), trivial, by repeat (first | exact Ent.refl _ | exact Ent.nil | refine Ent.pick ?_ | refine Ent.nilS ?_ | refine Ent.nilM ?_ | refine Ent.drop ?_), trivial⟩
    rintro ⟨⟩ -
    repeat (first | (refine GQ.y ?_; refine Q.y ?_) | refine Q.go ?_ | (refine GQ.g ?_; refine Q.gq ?_) | (refine GQ.s ?_; refine Q.st ?_) | (refine GQ.g ?_; refine Q.gd ?_) | refine Q.ct rfl ?_ | refine Q.cf rfl ?_ | (refine GQ.a ?_; refine Q.al (fun b1 => ?_)))
    exact N.r1 (RV.tmp rfl RV.nil) (Ent.refl _) rfl
  · refine S.cr rfl (NewBad_spec dim _ hd3) ?_
    rintro _ _ ⟨rfl, rfl⟩
    clear hd
    by_cases hd1 : 1 ≤ dim
    · have hd2 : ¬ dim ≤ 8 := fun h => hd3 ⟨hd1, h⟩
      clear hd3
      cases no
      · repeat (first | (refine GQ.y ?_; refine Q.y ?_) | refine Q.go ?_ | (refine GQ.g ?_; refine Q.gq ?_) | (refine GQ.s ?_; refine Q.st ?_) | (refine GQ.g ?_; refine Q.gd ?_) | refine Q.ct rfl ?_ | refine Q.cf rfl ?_ | (refine GQ.a ?_; refine Q.al (fun b1 => ?_)))
        refine swp_cutB (σ := Unit) (fun _ => []) (fun _ => []) (fun _ => True) ?_ ?_
        · refine swp_loop (σ := Nat × (Nat → Option Obj)) (fun u => [(7, pN), (10, pN), (52, .slice a xs.length c), (53, .int .i64 xs.length), (54, .int .i64 u.1)]) (fun u => roM u.2 :: [])
            (fun u => u.1 ≤ xs.length ∧ leM M u.2) (fun u => xs.length - u.1) (0, M) ⟨rfl, rfl, rfl, rfl, rfl, trivial⟩ (by repeat (first | exact Ent.refl _ | exact Ent.nil | refine Ent.pick ?_ | refine Ent.nilS ?_ | refine Ent.nilM ?_ | refine Ent.drop ?_)) ⟨by omega, leM.refl M⟩ ?_
          rintro ⟨k, M1⟩ ⟨hk, hl1⟩
          dsimp only at hk hl1 ⊢
          by_cases hlt : k < xs.length
          · obtain ⟨o, ho⟩ := mem_get hlt
            have hdo := (hx o (List.mem_of_getElem? ho)).mono hl1
            have hrs : RdS (roM M1 :: []) a xs.length 8 (xs.flatMap DV.cells) := (SlM.mono h hl1).rd
            obtain ⟨b, oo, hia, hr⟩ := RdS.elem (g := DV.cells) (fun _ => rfl) hrs ho rfl
            rw [hia]
            by_cases h40 : (40 : Int) ≤ k
            · repeat (first | (refine GQ.y ?_; refine Q.y ?_) | refine Q.go ?_ | (refine GQ.g ?_; refine Q.gq ?_) | (refine GQ.s ?_; refine Q.st ?_) | (refine GQ.g ?_; refine Q.gd ?_) | refine Q.ct rfl ?_ | refine Q.cf rfl ?_ | (refine GQ.a ?_; refine Q.al (fun b1 => ?_)))
              exact ⟨(), trivial, by repeat (first | exact Ent.refl _ | exact Ent.nil | refine Ent.pick ?_ | refine Ent.nilS ?_ | refine Ent.nilM ?_ | refine Ent.drop ?_), trivial⟩
            · repeat (first | (refine GQ.y ?_; refine Q.y ?_) | refine Q.go ?_ | (refine GQ.g ?_; refine Q.gq ?_) | (refine GQ.s ?_; refine Q.st ?_) | (refine GQ.g ?_; refine Q.gd ?_) | refine Q.ct rfl ?_ | refine Q.cf rfl ?_ | (refine GQ.a ?_; refine Q.al (fun b1 => ?_)))
              refine opsS_ent (L' := roM M1 :: [pt b1 (cl o.cells 39)]) (by repeat (first | exact Ent.refl _ | exact Ent.nil | refine Ent.pick ?_ | refine Ent.nilS ?_ | refine Ent.nilM ?_ | refine Ent.drop ?_)) ?_
              refine S.cr rfl (DoN_spec o M1 _ hdo.1 hdo.2.1 hdo.2.2.1 hdo.2.2.2.1) ?_
              rintro _ _ ⟨rfl, M2, hl2, rfl⟩
              have hdo2 := hdo.mono hl2
              repeat (first | (refine GQ.y ?_; refine Q.y ?_) | refine Q.go ?_ | (refine GQ.g ?_; refine Q.gq ?_) | (refine GQ.s ?_; refine Q.st ?_) | (refine GQ.g ?_; refine Q.gd ?_) | refine Q.ct rfl ?_ | refine Q.cf rfl ?_ | (refine GQ.a ?_; refine Q.al (fun b1 => ?_)))
              refine opsS_ent (L' := roM M2 :: [pt b1 (cl o.cells 39)]) (by repeat (first | exact Ent.refl _ | exact Ent.nil | refine Ent.pick ?_ | refine Ent.nilS ?_ | refine Ent.nilM ?_ | refine Ent.drop ?_)) ?_
              refine S.cr rfl (asksN_spec o M2 _ hdo2.2.2.2.2.1 hdo2.2.2.2.2.2.1 hdo2.2.2.2.2.2.2) ?_
              rintro _ _ ⟨rfl, M3, hl3, rfl⟩
              repeat (first | (refine GQ.y ?_; refine Q.y ?_) | refine Q.go ?_ | (refine GQ.g ?_; refine Q.gq ?_) | (refine GQ.s ?_; refine Q.st ?_) | (refine GQ.g ?_; refine Q.gd ?_) | refine Q.ct rfl ?_ | refine Q.cf rfl ?_ | (refine GQ.a ?_; refine Q.al (fun b1 => ?_)))
              refine ⟨(k + 1, M3), ⟨rfl, rfl, rfl, rfl, rfl, trivial⟩, by repeat (first | exact Ent.refl _ | exact Ent.nil | refine Ent.pick ?_ | refine Ent.nilS ?_ | refine Ent.nilM ?_ | refine Ent.drop ?_), ⟨by dsimp only; omega, hl1.trans (hl2.trans hl3)⟩, by dsimp only; omega⟩
          · have hke : k = xs.length := by omega
            subst hke
            repeat (first | (refine GQ.y ?_; refine Q.y ?_) | refine Q.go ?_ | (refine GQ.g ?_; refine Q.gq ?_) | (refine GQ.s ?_; refine Q.st ?_) | (refine GQ.g ?_; refine Q.gd ?_) | refine Q.ct rfl ?_ | refine Q.cf rfl ?_ | (refine GQ.a ?_; refine Q.al (fun b1 => ?_)))
            exact ⟨(), trivial, by repeat (first | exact Ent.refl _ | exact Ent.nil | refine Ent.pick ?_ | refine Ent.nilS ?_ | refine Ent.nilM ?_ | refine Ent.drop ?_), trivial⟩
        rintro ⟨⟩ -
        repeat (first | (refine GQ.y ?_; refine Q.y ?_) | refine Q.go ?_ | (refine GQ.g ?_; refine Q.gq ?_) | (refine GQ.s ?_; refine Q.st ?_) | (refine GQ.g ?_; refine Q.gd ?_) | refine Q.ct rfl ?_ | refine Q.cf rfl ?_ | (refine GQ.a ?_; refine Q.al (fun b1 => ?_)))
        exact N.r1 (RV.tmp rfl RV.nil) (Ent.refl _) rfl
      · repeat (first | (refine GQ.y ?_; refine Q.y ?_) | refine Q.go ?_ | (refine GQ.g ?_; refine Q.gq ?_) | (refine GQ.s ?_; refine Q.st ?_) | (refine GQ.g ?_; refine Q.gd ?_) | refine Q.ct rfl ?_ | refine Q.cf rfl ?_ | (refine GQ.a ?_; refine Q.al (fun b1 => ?_)))
        refine swp_cutB (σ := Unit) (fun _ => []) (fun _ => []) (fun _ => True) ?_ ?_
        · refine swp_loop (σ := Nat × (Nat → Option Obj)) (fun u => [(7, pN), (10, pN), (52, .slice a xs.length c), (53, .int .i64 xs.length), (54, .int .i64 u.1)]) (fun u => roM u.2 :: [])
            (fun u => u.1 ≤ xs.length ∧ leM M u.2) (fun u => xs.length - u.1) (0, M) ⟨rfl, rfl, rfl, rfl, rfl, trivial⟩ (by repeat (first | exact Ent.refl _ | exact Ent.nil | refine Ent.pick ?_ | refine Ent.nilS ?_ | refine Ent.nilM ?_ | refine Ent.drop ?_)) ⟨by omega, leM.refl M⟩ ?_
          rintro ⟨k, M1⟩ ⟨hk, hl1⟩
          dsimp only at hk hl1 ⊢
          by_cases hlt : k < xs.length
          · obtain ⟨o, ho⟩ := mem_get hlt
            have hdo := (hx o (List.mem_of_getElem? ho)).mono hl1
            have hrs : RdS (roM M1 :: []) a xs.length 8 (xs.flatMap DV.cells) := (SlM.mono h hl1).rd
            obtain ⟨b, oo, hia, hr⟩ := RdS.elem (g := DV.cells) (fun _ => rfl) hrs ho rfl
            rw [hia]
            by_cases h40 : (40 : Int) ≤ k
            · repeat (first | (refine GQ.y ?_; refine Q.y ?_) | refine Q.go ?_ | (refine GQ.g ?_; refine Q.gq ?_) | (refine GQ.s ?_; refine Q.st ?_) | (refine GQ.g ?_; refine Q.gd ?_) | refine Q.ct rfl ?_ | refine Q.cf rfl ?_ | (refine GQ.a ?_; refine Q.al (fun b1 => ?_)))
              exact ⟨(), trivial, by repeat (first | exact Ent.refl _ | exact Ent.nil | refine Ent.pick ?_ | refine Ent.nilS ?_ | refine Ent.nilM ?_ | refine Ent.drop ?_), trivial⟩
            · repeat (first | (refine GQ.y ?_; refine Q.y ?_) | refine Q.go ?_ | (refine GQ.g ?_; refine Q.gq ?_) | (refine GQ.s ?_; refine Q.st ?_) | (refine GQ.g ?_; refine Q.gd ?_) | refine Q.ct rfl ?_ | refine Q.cf rfl ?_ | (refine GQ.a ?_; refine Q.al (fun b1 => ?_)))
              refine opsS_ent (L' := roM M1 :: [pt b1 (cl o.cells 39)]) (by repeat (first | exact Ent.refl _ | exact Ent.nil | refine Ent.pick ?_ | refine Ent.nilS ?_ | refine Ent.nilM ?_ | refine Ent.drop ?_)) ?_
              refine S.cr rfl (DoN_spec o M1 _ hdo.1 hdo.2.1 hdo.2.2.1 hdo.2.2.2.1) ?_
              rintro _ _ ⟨rfl, M2, hl2, rfl⟩
              have hdo2 := hdo.mono hl2
              repeat (first | (refine GQ.y ?_; refine Q.y ?_) | refine Q.go ?_ | (refine GQ.g ?_; refine Q.gq ?_) | (refine GQ.s ?_; refine Q.st ?_) | (refine GQ.g ?_; refine Q.gd ?_) | refine Q.ct rfl ?_ | refine Q.cf rfl ?_ | (refine GQ.a ?_; refine Q.al (fun b1 => ?_)))
              refine opsS_ent (L' := roM M2 :: [pt b1 (cl o.cells 39)]) (by repeat (first | exact Ent.refl _ | exact Ent.nil | refine Ent.pick ?_ | refine Ent.nilS ?_ | refine Ent.nilM ?_ | refine Ent.drop ?_)) ?_
              refine S.cr rfl (asksN_spec o M2 _ hdo2.2.2.2.2.1 hdo2.2.2.2.2.2.1 hdo2.2.2.2.2.2.2) ?_
              rintro _ _ ⟨rfl, M3, hl3, rfl⟩
              repeat (first | (refine GQ.y ?_; refine Q.y ?_) | refine Q.go ?_ | (refine GQ.g ?_; refine Q.gq ?_) | (refine GQ.s ?_; refine Q.st ?_) | (refine GQ.g ?_; refine Q.gd ?_) | refine Q.ct rfl ?_ | refine Q.cf rfl ?_ | (refine GQ.a ?_; refine Q.al (fun b1 => ?_)))
              refine ⟨(k + 1, M3), ⟨rfl, rfl, rfl, rfl, rfl, trivial⟩, by repeat (first | exact Ent.refl _ | exact Ent.nil | refine Ent.pick ?_ | refine Ent.nilS ?_ | refine Ent.nilM ?_ | refine Ent.drop ?_), ⟨by dsimp only; omega, hl1.trans (hl2.trans hl3)⟩, by dsimp only; omega⟩
          · have hke : k = xs.length := by omega
            subst hke
            repeat (first | (refine GQ.y ?_; refine Q.y ?_) | refine Q.go ?_ | (refine GQ.g ?_; refine Q.gq ?_) | (refine GQ.s ?_; refine Q.st ?_) | (refine GQ.g ?_; refine Q.gd ?_) | refine Q.ct rfl ?_ | refine Q.cf rfl ?_ | (refine GQ.a ?_; refine Q.al (fun b1 => ?_)))
            exact ⟨(), trivial, by repeat (first | exact Ent.refl _ | exact Ent.nil | refine Ent.pick ?_ | refine Ent.nilS ?_ | refine Ent.nilM ?_ | refine Ent.drop ?_), trivial⟩
        rintro ⟨⟩ -
        repeat (first | (refine GQ.y ?_; refine Q.y ?_) | refine Q.go ?_ | (refine GQ.g ?_; refine Q.gq ?_) | (refine GQ.s ?_; refine Q.st ?_) | (refine GQ.g ?_; refine Q.gd ?_) | refine Q.ct rfl ?_ | refine Q.cf rfl ?_ | (refine GQ.a ?_; refine Q.al (fun b1 => ?_)))
        exact N.r1 (RV.tmp rfl RV.nil) (Ent.refl _) rfl
    · clear hd3
      cases no
      · repeat (first | (refine GQ.y ?_; refine Q.y ?_) | refine Q.go ?_ | (refine GQ.g ?_; refine Q.gq ?_) | (refine GQ.s ?_; refine Q.st ?_) | (refine GQ.g ?_; refine Q.gd ?_) | refine Q.ct rfl ?_ | refine Q.cf rfl ?_ | (refine GQ.a ?_; refine Q.al (fun b1 => ?_)))
        refine swp_cutB (σ := Unit) (fun _ => []) (fun _ => []) (fun _ => True) ?_ ?_
        · refine swp_loop (σ := Nat × (Nat → Option Obj)) (fun u => [(7, pN), (10, pN), (52, .slice a xs.length c), (53, .int .i64 xs.length), (54, .int .i64 u.1)]) (fun u => roM u.2 :: [])
            (fun u => u.1 ≤ xs.length ∧ leM M u.2) (fun u => xs.length - u.1) (0, M) ⟨rfl, rfl, rfl, rfl, rfl, trivial⟩ (by repeat (first | exact Ent.refl _ | exact Ent.nil | refine Ent.pick ?_ | refine Ent.nilS ?_ | refine Ent.nilM ?_ | refine Ent.drop ?_)) ⟨by omega, leM.refl M⟩ ?_
          rintro ⟨k, M1⟩ ⟨hk, hl1⟩
          dsimp only at hk hl1 ⊢
          by_cases hlt : k < xs.length
          · obtain ⟨o, ho⟩ := mem_get hlt
            have hdo := (hx o (List.mem_of_getElem? ho)).mono hl1
            have hrs : RdS (roM M1 :: []) a xs.length 8 (xs.flatMap DV.cells) := (SlM.mono h hl1).rd
            obtain ⟨b, oo, hia, hr⟩ := RdS.elem (g := DV.cells) (fun _ => rfl) hrs ho rfl
            rw [hia]
            by_cases h40 : (40 : Int) ≤ k
            · repeat (first | (refine GQ.y ?_; refine Q.y ?_) | refine Q.go ?_ | (refine GQ.g ?_; refine Q.gq ?_) | (refine GQ.s ?_; refine Q.st ?_) | (refine GQ.g ?_; refine Q.gd ?_) | refine Q.ct rfl ?_ | refine Q.cf rfl ?_ | (refine GQ.a ?_; refine Q.al (fun b1 => ?_)))
              exact ⟨(), trivial, by repeat (first | exact Ent.refl _ | exact Ent.nil | refine Ent.pick ?_ | refine Ent.nilS ?_ | refine Ent.nilM ?_ | refine Ent.drop ?_), trivial⟩
            · repeat (first | (refine GQ.y ?_; refine Q.y ?_) | refine Q.go ?_ | (refine GQ.g ?_; refine Q.gq ?_) | (refine GQ.s ?_; refine Q.st ?_) | (refine GQ.g ?_; refine Q.gd ?_) | refine Q.ct rfl ?_ | refine Q.cf rfl ?_ | (refine GQ.a ?_; refine Q.al (fun b1 => ?_)))
              refine opsS_ent (L' := roM M1 :: [pt b1 (cl o.cells 39)]) (by repeat (first | exact Ent.refl _ | exact Ent.nil | refine Ent.pick ?_ | refine Ent.nilS ?_ | refine Ent.nilM ?_ | refine Ent.drop ?_)) ?_
              refine S.cr rfl (DoN_spec o M1 _ hdo.1 hdo.2.1 hdo.2.2.1 hdo.2.2.2.1) ?_
              rintro _ _ ⟨rfl, M2, hl2, rfl⟩
              have hdo2 := hdo.mono hl2
              repeat (first | (refine GQ.y ?_; refine Q.y ?_) | refine Q.go ?_ | (refine GQ.g ?_; refine Q.gq ?_) | (refine GQ.s ?_; refine Q.st ?_) | (refine GQ.g ?_; refine Q.gd ?_) | refine Q.ct rfl ?_ | refine Q.cf rfl ?_ | (refine GQ.a ?_; refine Q.al (fun b1 => ?_)))
              refine opsS_ent (L' := roM M2 :: [pt b1 (cl o.cells 39)]) (by repeat (first | exact Ent.refl _ | exact Ent.nil | refine Ent.pick ?_ | refine Ent.nilS ?_ | refine Ent.nilM ?_ | refine Ent.drop ?_)) ?_
              refine S.cr rfl (asksN_spec o M2 _ hdo2.2.2.2.2.1 hdo2.2.2.2.2.2.1 hdo2.2.2.2.2.2.2) ?_
              rintro _ _ ⟨rfl, M3, hl3, rfl⟩
              repeat (first | (refine GQ.y ?_; refine Q.y ?_) | refine Q.go ?_ | (refine GQ.g ?_; refine Q.gq ?_) | (refine GQ.s ?_; refine Q.st ?_) | (refine GQ.g ?_; refine Q.gd ?_) | refine Q.ct rfl ?_ | refine Q.cf rfl ?_ | (refine GQ.a ?_; refine Q.al (fun b1 => ?_)))
              refine ⟨(k + 1, M3), ⟨rfl, rfl, rfl, rfl, rfl, trivial⟩, by repeat (first | exact Ent.refl _ | exact Ent.nil | refine Ent.pick ?_ | refine Ent.nilS ?_ | refine Ent.nilM ?_ | refine Ent.drop ?_), ⟨by dsimp only; omega, hl1.trans (hl2.trans hl3)⟩, by dsimp only; omega⟩
          · have hke : k = xs.length := by omega
            subst hke
            repeat (first | (refine GQ.y ?_; refine Q.y ?_) | refine Q.go ?_ | (refine GQ.g ?_; refine Q.gq ?_) | (refine GQ.s ?_; refine Q.st ?_) | (refine GQ.g ?_; refine Q.gd ?_) | refine Q.ct rfl ?_ | refine Q.cf rfl ?_ | (refine GQ.a ?_; refine Q.al (fun b1 => ?_)))
            exact ⟨(), trivial, by repeat (first | exact Ent.refl _ | exact Ent.nil | refine Ent.pick ?_ | refine Ent.nilS ?_ | refine Ent.nilM ?_ | refine Ent.drop ?_), trivial⟩
        rintro ⟨⟩ -
        repeat (first | (refine GQ.y ?_; refine Q.y ?_) | refine Q.go ?_ | (refine GQ.g ?_; refine Q.gq ?_) | (refine GQ.s ?_; refine Q.st ?_) | (refine GQ.g ?_; refine Q.gd ?_) | refine Q.ct rfl ?_ | refine Q.cf rfl ?_ | (refine GQ.a ?_; refine Q.al (fun b1 => ?_)))
        exact N.r1 (RV.tmp rfl RV.nil) (Ent.refl _) rfl
      · repeat (first | (refine GQ.y ?_; refine Q.y ?_) | refine Q.go ?_ | (refine GQ.g ?_; refine Q.gq ?_) | (refine GQ.s ?_; refine Q.st ?_) | (refine GQ.g ?_; refine Q.gd ?_) | refine Q.ct rfl ?_ | refine Q.cf rfl ?_ | (refine GQ.a ?_; refine Q.al (fun b1 => ?_)))
        refine swp_cutB (σ := Unit) (fun _ => []) (fun _ => []) (fun _ => True) ?_ ?_
        · refine swp_loop (σ := Nat × (Nat → Option Obj)) (fun u => [(7, pN), (10, pN), (52, .slice a xs.length c), (53, .int .i64 xs.length), (54, .int .i64 u.1)]) (fun u => roM u.2 :: [])
            (fun u => u.1 ≤ xs.length ∧ leM M u.2) (fun u => xs.length - u.1) (0, M) ⟨rfl, rfl, rfl, rfl, rfl, trivial⟩ (by repeat (first | exact Ent.refl _ | exact Ent.nil | refine Ent.pick ?_ | refine Ent.nilS ?_ | refine Ent.nilM ?_ | refine Ent.drop ?_)) ⟨by omega, leM.refl M⟩ ?_
          rintro ⟨k, M1⟩ ⟨hk, hl1⟩
          dsimp only at hk hl1 ⊢
          by_cases hlt : k < xs.length
          · obtain ⟨o, ho⟩ := mem_get hlt
            have hdo := (hx o (List.mem_of_getElem? ho)).mono hl1
            have hrs : RdS (roM M1 :: []) a xs.length 8 (xs.flatMap DV.cells) := (SlM.mono h hl1).rd
            obtain ⟨b, oo, hia, hr⟩ := RdS.elem (g := DV.cells) (fun _ => rfl) hrs ho rfl
            rw [hia]
            by_cases h40 : (40 : Int) ≤ k
            · repeat (first | (refine GQ.y ?_; refine Q.y ?_) | refine Q.go ?_ | (refine GQ.g ?_; refine Q.gq ?_) | (refine GQ.s ?_; refine Q.st ?_) | (refine GQ.g ?_; refine Q.gd ?_) | refine Q.ct rfl ?_ | refine Q.cf rfl ?_ | (refine GQ.a ?_; refine Q.al (fun b1 => ?_)))
              exact ⟨(), trivial, by repeat (first | exact Ent.refl _ | exact Ent.nil | refine Ent.pick ?_ | refine Ent.nilS ?_ | refine Ent.nilM ?_ | refine Ent.drop ?_), trivial⟩
            · repeat (first | (refine GQ.y ?_; refine Q.y ?_) | refine Q.go ?_ | (refine GQ.g ?_; refine Q.gq ?_) | (refine GQ.s ?_; refine Q.st ?_) | (refine GQ.g ?_; refine Q.gd ?_) | refine Q.ct rfl ?_ | refine Q.cf rfl ?_ | (refine GQ.a ?_; refine Q.al (fun b1 => ?_)))
              refine opsS_ent (L' := roM M1 :: [pt b1 (cl o.cells 39)]) (by repeat (first | exact Ent.refl _ | exact Ent.nil | refine Ent.pick ?_ | refine Ent.nilS ?_ | refine Ent.nilM ?_ | refine Ent.drop ?_)) ?_
              refine S.cr rfl (DoN_spec o M1 _ hdo.1 hdo.2.1 hdo.2.2.1 hdo.2.2.2.1) ?_
              rintro _ _ ⟨rfl, M2, hl2, rfl⟩
              have hdo2 := hdo.mono hl2
              repeat (first | (refine GQ.y ?_; refine Q.y ?_) | refine Q.go ?_ | (refine GQ.g ?_; refine Q.gq ?_) | (refine GQ.s ?_; refine Q.st ?_) | (refine GQ.g ?_; refine Q.gd ?_) | refine Q.ct rfl ?_ | refine Q.cf rfl ?_ | (refine GQ.a ?_; refine Q.al (fun b1 => ?_)))
              refine opsS_ent (L' := roM M2 :: [pt b1 (cl o.cells 39)]) (by repeat (first | exact Ent.refl _ | exact Ent.nil | refine Ent.pick ?_ | refine Ent.nilS ?_ | refine Ent.nilM ?_ | refine Ent.drop ?_)) ?_
              refine S.cr rfl (asksN_spec o M2 _ hdo2.2.2.2.2.1 hdo2.2.2.2.2.2.1 hdo2.2.2.2.2.2.2) ?_
              rintro _ _ ⟨rfl, M3, hl3, rfl⟩
              repeat (first | (refine GQ.y ?_; refine Q.y ?_) | refine Q.go ?_ | (refine GQ.g ?_; refine Q.gq ?_) | (refine GQ.s ?_; refine Q.st ?_) | (refine GQ.g ?_; refine Q.gd ?_) | refine Q.ct rfl ?_ | refine Q.cf rfl ?_ | (refine GQ.a ?_; refine Q.al (fun b1 => ?_)))
              refine ⟨(k + 1, M3), ⟨rfl, rfl, rfl, rfl, rfl, trivial⟩, by repeat (first | exact Ent.refl _ | exact Ent.nil | refine Ent.pick ?_ | refine Ent.nilS ?_ | refine Ent.nilM ?_ | refine Ent.drop ?_), ⟨by dsimp only; omega, hl1.trans (hl2.trans hl3)⟩, by dsimp only; omega⟩
          · have hke : k = xs.length := by omega
            subst hke
            repeat (first | (refine GQ.y ?_; refine Q.y ?_) | refine Q.go ?_ | (refine GQ.g ?_; refine Q.gq ?_) | (refine GQ.s ?_; refine Q.st ?_) | (refine GQ.g ?_; refine Q.gd ?_) | refine Q.ct rfl ?_ | refine Q.cf rfl ?_ | (refine GQ.a ?_; refine Q.al (fun b1 => ?_)))
            exact ⟨(), trivial, by repeat (first | exact Ent.refl _ | exact Ent.nil | refine Ent.pick ?_ | refine Ent.nilS ?_ | refine Ent.nilM ?_ | refine Ent.drop ?_), trivial⟩
        rintro ⟨⟩ -
        repeat (first | (refine GQ.y ?_; refine Q.y ?_) | refine Q.go ?_ | (refine GQ.g ?_; refine Q.gq ?_) | (refine GQ.s ?_; refine Q.st ?_) | (refine GQ.g ?_; refine Q.gd ?_) | refine Q.ct rfl ?_ | refine Q.cf rfl ?_ | (refine GQ.a ?_; refine Q.al (fun b1 => ?_)))
        exact N.r1 (RV.tmp rfl RV.nil) (Ent.refl _) rfl
end Go.Proofs.Ytieejgbjgcbbjaa
