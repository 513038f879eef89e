/- A journal's steps while the power is there; pure. The law's example. Readings opened: from what the arguments read as to cells that stay; rows. The journal's rows: what the listed variables hold. The law's begin. JournalMany. What follows behind a call, by what lies there. JournalAll. A Save, with so much power left; pure. JournalSaves. No condition. -/
import Derived.ReadAgain
import Derived.ChangeArms
import Derived.WideShapes
import Derived.KernelRfl
import Derived.Test.YtkleenllkjodoaaGreatDoorCards
import Derived.Test.YtkleenllkjodoaaGreatDoorTie
import Derived.Deep.DeepHandedRow
import Derived.Lib.LaidTab
import Derived.Stop.LaidErr
import Derived.Lay
import Derived.Test.YtkleenllkjodoaaGreatDoorPk06
set_option linter.unusedVariables false
set_option linter.unusedSimpArgs false
set_option linter.unusedSectionVars false
namespace Go.Proofs.YtkleenllkjodoaaGreatDoor
open Go Go.SX
theorem nm_le (n : Nat) : nm 99 n ≤ nm 108 n := List.cons_le_cons_iff.2 (.inl (by decide))
theorem namesJ (room : Int) (n : Nat) (s : List UInt8) (lg : Option (List UInt8 × Nat)) : namesD (dJ room n s lg) = nm 99 n :: (if lg.isSome then [nm 108 n] else []) := by
  unfold namesD srtS
  cases lg with
  | none => exact List.mergeSort_of_pairwise (by simp [dJ])
  | some v => exact List.mergeSort_of_pairwise (by simpa [dJ] using nm_le n)
theorem goodJ {room : Int} {n : Nat} {s : List UInt8} {lg : Option (List UInt8 × Nat)} (hn : n < 100) : ∀ x ∈ namesD (dJ room n s lg), goodN x := by
  intro x hx
  rw [namesJ] at hx
  rcases List.mem_cons.1 hx with rfl | hx
  · exact .inl ⟨n, hn, rfl⟩
  · split at hx
    · rw [List.mem_singleton.1 hx]; exact .inr (.inl ⟨n, hn, rfl⟩)
    · cases hx
theorem latJ {room : Int} {n : Nat} {s : List UInt8} {lg : Option (List UInt8 × Nat)} (hn : n < 100) : latN (namesD (dJ room n s lg)) = n := by
  rw [namesJ]
  have h1 : latM (-1) (nm 99 n) = n := by unfold latM; rw [numOf_nm hn]; dsimp only; omega
  unfold latN
  rw [List.foldl_cons, h1]
  cases lg with
  | none => rfl
  | some v =>
    show latM n (nm 108 n) = n
    unfold latM nm
    rw [numOf_ne (by decide)]
theorem oldJ_nil {room : Int} {n : Nat} {s : List UInt8} {lg : Option (List UInt8 × Nat)} (hn : n < 100) : opO (dJ room n s lg) = [] := by
  unfold opO
  rw [latJ hn, namesJ]
  have h1 : isOld n (nm 99 n) = false := by
    unfold isOld
    rw [numOf_nm hn]
    have : numOf 108 (nm 99 n) = none := numOf_ne (by decide)
    rw [this, decide_eq_false (nm_t n)]
    simp
  have h2 : isOld n (nm 108 n) = false := by
    unfold isOld
    have : numOf 99 (nm 108 n) = none := numOf_ne (by decide)
    rw [numOf_nm hn, this, decide_eq_false (nm_t' n)]
    simp
  unfold latO
  cases lg with
  | none => simp [h1]
  | some v => simp [h1, h2]
theorem lkJc (room : Int) (n : Nat) (s : List UInt8) (lg : Option (List UInt8 × Nat)) : lkL (dJ room n s lg).fs (nm 99 n) = some (stP s, (stP s).length) := by
  unfold dJ; dsimp only; rw [lkL_cons, if_pos rfl]
theorem lkJl (room : Int) (n : Nat) (s : List UInt8) (lg : Option (List UInt8 × Nat)) : lkL (dJ room n s lg).fs (nm 108 n) = lg := by
  unfold dJ; dsimp only; rw [lkL_cons, if_neg (nm_ne n n)]
  cases lg with
  | none => rfl
  | some v => rw [lkL_cons, if_pos rfl]
theorem putJl (room : Int) (n : Nat) (s : List UInt8) (lg : Option (List UInt8 × Nat)) (v : List UInt8 × Nat) : putL (dJ room n s lg).fs (nm 108 n) v = (dJ room n s (some v)).fs := by
  unfold dJ; dsimp only; rw [putL_cons_ne _ _ _ _ _ (nm_ne n n)]
  cases lg with
  | none => rfl
  | some w => rw [putL_cons_eq _ _ _ _ (by simp)]
theorem fileJ (room : Int) (n : Nat) (s : List UInt8) (lg : Option (List UInt8 × Nat)) : fileD (dJ room n s lg) (nm 108 n) = (lgB lg, lgF lg) := by unfold fileD; rw [lkJl]; rfl
theorem fmJ (room : Int) (n : Nat) (s b : List UInt8) (f : Nat) : fmD (dJ room n s (some (b, f))) (nm 108 n) = dJ room n s (some (b, b.length)) := by
  unfold fmD
  rw [fileJ, putJl]; rfl
def okRc (R : List (List UInt8)) : Prop := ∀ x ∈ R, x.length ≤ 4096 ∧ x.length ≠ 0
theorem logF_frs {R : List (List UInt8)} (h : okRc R) : logF (frs R) = R := by
  have := logF_fr (r := []) h
  rw [List.append_nil, logF_no (fun h => nxE_nil h.1), List.append_nil] at this
  exact this
theorem open_J {room : Int} {n : Nat} {s : List UInt8} {R : List (List UInt8)} {lg : Option (List UInt8 × Nat)} (hn : n < 100) (hR : okRc R) (hl : (lg = none ∧ R = []) ∨ ∃ f, f ≤ (frs R).length ∧ lg = some (frs R, f)) :
    opnE (dJ room n s lg) = 0 ∧ opnS (dJ room n s lg) = dJ room n s (lg.map fun _ => (frs R, (frs R).length)) ∧ opN (dJ room n s lg) = n ∧ opB (dJ room n s lg) = some s ∧ opR (dJ room n s lg) = R := by
  have hN : opN (dJ room n s lg) = n := by unfold opN; rw [latJ hn]; rfl
  have hdn : ¬ (dJ room n s lg).down = true := by show ¬ (false = true); decide
  have hB : opB (dJ room n s lg) = some s := by
    unfold opB
    rw [if_neg (by rw [latJ hn]; omega), hN]
    unfold rdB
    rw [if_neg hdn, lkJc]
    exact unP_st s
  have hD : opD (dJ room n s lg) = opL (dJ room n s lg) := by unfold opD; rw [if_neg (fun h => h.2 (oldJ_nil hn))]
  have hL : opL (dJ room n s lg) = (0, dJ room n s (lg.map fun _ => (frs R, (frs R).length))) ∧ opR (dJ room n s lg) = R := by
    unfold opL opR
    rw [hN]
    rcases hl with ⟨rfl, rfl⟩ | ⟨f, hf, rfl⟩
    · have he : rdE (dJ room n s none) (nm 108 n) = 6 := by unfold rdE; rw [if_neg hdn, lkJl, if_pos rfl]
      refine ⟨by unfold logD; rw [he, if_pos (by decide)]; rfl, by unfold logR; rw [he, if_pos (.inl (by decide))]⟩
    · have he : rdE (dJ room n s (some (frs R, f))) (nm 108 n) = 0 := by unfold rdE; rw [if_neg hdn, lkJl, if_neg (by simp)]
      have hb : rdB (dJ room n s (some (frs R, f))) (nm 108 n) = frs R := by unfold rdB; rw [if_neg hdn, lkJl]; rfl
      have hlo : loD (dJ room n s (some (frs R, f))) (nm 108 n) = (0, dJ room n s (some (frs R, (frs R).length))) := by
        unfold loD
        have hlen : looseD (dJ room n s (some (frs R, f))) (nm 108 n) = (frs R).length - f := by unfold looseD; rw [fileJ]; rfl
        rw [hlen]
        have hh : hasD (dJ room n s (some (frs R, f))) (nm 108 n) := by unfold hasD; rw [lkJl]; simp
        split
        · rw [fmE_live (dJ_live _ _ _ _) hh, fmS_live (dJ_live _ _ _ _) hh, fmJ]
        · have : f = (frs R).length := by omega
          rw [← this]
      have hlg : logD (dJ room n s (some (frs R, f))) (nm 108 n) = (0, dJ room n s (some (frs R, (frs R).length))) := by
        unfold logD
        rw [he, if_neg (by decide), hb, logF_frs hR, ← frs_len, if_neg (by omega), hlo]
      refine ⟨hlg, ?_⟩
      unfold logR
      rw [he, hlg, if_neg (by simp), hb, logF_frs hR]
  refine ⟨?_, ?_, hN, hB, hL.2⟩
  · unfold opnE; rw [if_neg hdn, if_neg (by rw [hB]; simp), hD, hL.1]
  · unfold opnS; rw [if_neg hdn, if_neg (by rw [hB]; simp), hD, hL.1]
theorem put_J {room : Int} {n k : Nat} {s : List UInt8} {lg : Option (List UInt8 × Nat)} {rs : List (List UInt8)} (h1 : ptC rs = 0) (h2 : rs ≠ []) :
    (room < ((stP s).length + (lgB lg).length : Nat) + ((frs rs).length : Nat) → ptE ⟨dJ room n s lg, n, k, false⟩ rs = 8 ∧ ptS ⟨dJ room n s lg, n, k, false⟩ rs = ⟨dJ room n s lg, n, k, false⟩) ∧
    (¬ room < ((stP s).length + (lgB lg).length : Nat) + ((frs rs).length : Nat) → ptE ⟨dJ room n s lg, n, k, false⟩ rs = 0 ∧ ptS ⟨dJ room n s lg, n, k, false⟩ rs = ⟨dJ room n s (some (lgB lg ++ frs rs, lgF lg)), n, k + rs.length, false⟩) := by
  have hw := wr_live (dJ_live room n s lg) (frs rs)
  rw [dJ_used] at hw
  have hr : (dJ room n s lg).room = room := rfl
  rw [hr] at hw
  refine ⟨fun h => ?_, fun h => ?_⟩
  · rw [if_pos h] at hw
    refine ⟨?_, ?_⟩
    · unfold ptE; dsimp only; rw [if_neg (by decide), h1, if_neg (by decide), if_neg h2, hw]
    · unfold ptS; dsimp only; rw [if_neg (by decide), h1, if_neg (by decide), if_neg h2, hw]
      have : wrS (dJ room n s lg) (nm 108 n) (frs rs) = dJ room n s lg := by unfold wrS; rw [hw, if_neg (by decide), (dJ_live room n s lg).sd]
      rw [this]; rfl
  · rw [if_neg h] at hw
    refine ⟨?_, ?_⟩
    · unfold ptE; dsimp only; rw [if_neg (by decide), h1, if_neg (by decide), if_neg h2, hw]
    · unfold ptS; dsimp only; rw [if_neg (by decide), h1, if_neg (by decide), if_neg h2, hw]
      have : wrS (dJ room n s lg) (nm 108 n) (frs rs) = dJ room n s (some (lgB lg ++ frs rs, lgF lg)) := by
        rw [wrS_live (dJ_live room n s lg) hw]
        unfold wrD
        rw [fileJ, putJl]; rfl
      rw [this]; rfl
theorem put_no {s : JZ} {rs : List (List UInt8)} (hb : s.br = false) (h : ptC rs ≠ 0 ∨ rs = []) : ptE s rs = ptC rs ∧ ptS s rs = s := by
  by_cases hc : ptC rs = 0
  · have hr : rs = [] := by rcases h with h | h; exact absurd hc h; exact h
    subst hr
    refine ⟨?_, ?_⟩
    · unfold ptE; rw [hb, if_neg (by decide), if_neg (by rw [hc]; decide), if_pos rfl, hc]
    · unfold ptS; rw [hb, if_neg (by decide), if_neg (by rw [hc]; decide), if_pos rfl]
  · refine ⟨?_, ?_⟩
    · unfold ptE; rw [hb, if_neg (by decide), if_pos hc]
    · unfold ptS; rw [hb, if_neg (by decide), if_pos hc]
theorem foce_J {room : Int} {n k : Nat} {s b : List UInt8} {f : Nat} (hk : k ≠ 0) : foceE ⟨dJ room n s (some (b, f)), n, k, false⟩ = 0 ∧ foceS ⟨dJ room n s (some (b, f)), n, k, false⟩ = ⟨dJ room n s (some (b, b.length)), n, k, false⟩ := by
  have hh : hasD (dJ room n s (some (b, f))) (nm 108 n) := by unfold hasD; rw [lkJl]; simp
  have hE := fmE_live (dJ_live room n s (some (b, f))) hh
  have hS := fmS_live (dJ_live room n s (some (b, f))) hh
  refine ⟨?_, ?_⟩
  · unfold foceE; dsimp only; rw [if_neg (by decide), if_neg hk, hE]
  · unfold foceS; dsimp only; rw [if_neg (by decide), if_neg hk, hE, hS, fmJ]; rfl
theorem fo_0 (room : Int) (s : List UInt8) : foE (D0 room) s = (if room < (stP s).length then 8 else 0) ∧ (¬ room < (stP s).length → foS (D0 room) s = dJ room 0 s none) := by
  have h := lay_0 room s
  refine ⟨by unfold foE; rw [if_pos (show (D0 room).fs.length = 0 from rfl), h.1], fun hf => by unfold foS; rw [if_pos (show (D0 room).fs.length = 0 from rfl), h.2 hf]⟩
end Go.Proofs.YtkleenllkjodoaaGreatDoor
namespace Go.SX
open Go
theorem S.cvj {P : Program} {n : Nat} {ops rest : List Oper} {Q : Post} {f : Env} {L L0 L1 : List HP} {d : Tmp} {ty : TypeId} {pos : String} {af : Array Edge} {M : Nat → Option Obj} {x : Operand} {t e t0 : TypeId} {b m c : Nat} {l : List Value} [h : SlTy P t e] [h2 : IntTy P e .u8] (hx : ev f x = some (.slice (some ⟨b, 0, none⟩) m c)) [hf : FindB b L (cl l t0)] [hp : Pick (pt b (cl l t0)) L L0] [hm : PickM L0 M L1] (hl : l.length = m)
    (hk : ∀ M', leM M M' → SlM M' (some ⟨b, 0, none⟩) m 1 l → opsS P n ops rest Q (upd f d (.slice (some ⟨b, 0, none⟩) m c)) (roM M' :: L1)) :
    opsS P n ops (⟨some d, .convert t t x, ty, pos, af, none⟩ :: rest) Q f L :=
  S.cvm hx hl fun M1 h1 => opsS_join fun M' hl1 hl2 => hk M' hl1 (h1.mono hl2)
end Go.SX
namespace Go.Proofs.YtkleenllkjodoaaGreatDoor
open Go Go.SX
attribute [local irreducible] swp opsS thenS blockS retS CallsS St Ent YieldS anyS drawS
set_option maxHeartbeats 4000000 in
theorem awakeJ_spec (M : Nat → Option Obj) (L : List HP) (hE : ErrM M) (hT : NibM M) : CallsS Tryz.prog 9 [] (roM M :: L) (fun r L' => r = .bool true ∧ ∃ M', leM M M' ∧ L' = roM M' :: L) := by
  refine CallsS.of_body Tryz.func9 rfl rfl rfl ?_
  refine Q.r ?_; (repeat (intro b1; refine Q.r ?_))
  refine S.cr rfl (DNew_spec 1000 _ (by decide)) ?_
  rintro _ _ ⟨p, rfl, rfl⟩
  refine Q.r ?_; (repeat (intro b1; refine Q.r ?_))
  refine S.cvj (t0 := 5) rfl rfl (fun M1 hl1 hs1 => ?_)
  refine Q.r ?_; (repeat (intro b1; refine Q.r ?_))
  have hT1 := hT.mono hl1
  have hst := stP_len [115]
  have hl0 := fo_0 1000 [115]
  have hfits : ¬ (1000 : Int) < ((stP [115]).length : Nat) := by simp at hst; omega
  have hfo : foE (D0 1000) [115] = 0 := by rw [hl0.1, if_neg hfits]
  have hfs : foS (D0 1000) [115] = dJ 1000 0 [115] none := hl0.2 hfits
  refine S.ckm p rfl (Format_spec p (D0 1000) (some ⟨b1, 0, none⟩) 1 [115] M1 _ hs1 hT1 (Nat.le_refl _) (by decide)) ?_
  rintro _ _ ⟨rfl, M2, hl2, rfl⟩
  rw [hfo, hfs]
  refine Q.r ?_; (repeat (intro b1; refine Q.r ?_))
  have hT2 := hT1.mono hl2
  have hE2 := (hE.mono hl1).mono hl2
  refine S.ckm p rfl (Open_spec p _ M2 _ hE2 hT2 (goodJ (by decide))) ?_
  obtain ⟨o1, o2, o3, o4, o5⟩ := open_J (room := 1000) (n := 0) (s := [115]) (R := []) (lg := none) (by decide) (fun x hx => by cases hx) (.inl ⟨rfl, rfl⟩)
  rintro _ _ ⟨M3, hl3, ⟨h, _⟩ | ⟨_, q, sv, a, c, vs, rfl, _, _, _, hvs, _, _, _, rfl⟩⟩
  · exact absurd o1 h
  rw [o5] at hvs
  have hvl : vs.length = 0 := by rw [← List.length_map (f := YB.bs), hvs]; rfl
  rw [o2, o3, hvl]
  refine Q.r ?_; (repeat (intro b1; refine Q.r ?_))
  refine S.cvj (t0 := 5) rfl rfl (fun M4 hl4 hs4 => ?_)
  generalize b1 = ba at *
  refine Q.r ?_; (repeat (intro b1; refine Q.r ?_))
  refine S.cvj (t0 := 5) rfl rfl (fun M5 hl5 hs5 => ?_)
  generalize b1 = bb at *
  refine Q.r ?_; (repeat (intro b1; refine Q.r ?_))
  refine opsS_ent (L' := pt b1 (cl [.slice (some ⟨ba, 0, none⟩) 1 1, .slice (some ⟨bb, 0, none⟩) 1 1] 31) :: roM M5 :: jnP q p 0 0 false :: diskH p (dJ 1000 0 [115] none) :: L) (by repeat (first | exact Ent.refl _ | exact Ent.nil | refine Ent.pick ?_ | refine Ent.nilS ?_ | refine Ent.nilM ?_ | refine Ent.drop ?_)) ?_
  refine opsS_absR b1 (t := 31) (l := [.slice (some ⟨ba, 0, none⟩) 1 1, .slice (some ⟨bb, 0, none⟩) 1 1]) (m := 2) (cs := [.slice (some ⟨ba, 0, none⟩) 1 1, .slice (some ⟨bb, 0, none⟩) 1 1]) (Nat.le_refl _) rfl (fun M6 hl6 hs6 => ?_)
  refine opsS_ent (L' := jnP q p 0 0 false :: diskH p (dJ 1000 0 [115] none) :: roM M6 :: L) (by repeat (first | exact Ent.refl _ | exact Ent.nil | refine Ent.pick ?_ | refine Ent.nilS ?_ | refine Ent.nilM ?_ | refine Ent.drop ?_)) ?_
  have hT6 := (((hT2.mono hl3).mono hl4).mono hl5).mono hl6
  have hR2 : ([⟨some ⟨ba, 0, none⟩, 1, [97]⟩, ⟨some ⟨bb, 0, none⟩, 1, [98]⟩] : List YB).map YB.bs = [[97], [98]] := rfl
  have hok2 : okYs M6 [⟨some ⟨ba, 0, none⟩, 1, [97]⟩, ⟨some ⟨bb, 0, none⟩, 1, [98]⟩] := fun v hv => by
    rcases List.mem_cons.1 hv with rfl | hv
    · exact ⟨((hs4.mono hl5).mono hl6 : SlM M6 (some ⟨ba, 0, none⟩) 1 1 [B 97]), Nat.le_refl _⟩
    · rw [List.mem_singleton.1 hv]
      exact ⟨(hs5.mono hl6 : SlM M6 (some ⟨bb, 0, none⟩) 1 1 [B 98]), Nat.le_refl _⟩
  refine S.cr rfl (JPut_spec p q ⟨dJ 1000 0 [115] none, 0, 0, false⟩ (some ⟨b1, 0, none⟩) 2 [⟨some ⟨ba, 0, none⟩, 1, [97]⟩, ⟨some ⟨bb, 0, none⟩, 1, [98]⟩] M6 L (by decide) (by decide) (by show 1 ≤ 15; decide) hs6 hok2 hT6 (by simp) (fun v hv => by rcases List.mem_cons.1 hv with rfl | hv; exact Nat.le_of_ble_eq_true rfl; rw [List.mem_singleton.1 hv]; exact Nat.le_of_ble_eq_true rfl)) ?_
  rw [hR2]
  have hfl : (frs [[97], [98]]).length = 14 := by rw [frs_len]; rfl
  have hlg0 : (lgB none).length = 0 := rfl
  obtain ⟨hp1, hp2⟩ := (put_J (room := 1000) (n := 0) (k := 0) (s := [115]) (lg := none) (rs := [[97], [98]]) (by decide) (by simp)).2 (by rw [hfl, hlg0]; simp at hst; omega)
  rintro _ _ ⟨rfl, M7, hl7, rfl⟩
  rw [hp1, hp2]
  refine opsS_ent (L' := jnP q p 0 2 false :: diskH p (dJ 1000 0 [115] (some (frs [[97], [98]], 0))) :: roM M7 :: L) (Ent.refl _) ?_
  have hT7 := hT6.mono hl7
  refine Q.r ?_; (repeat (intro b1; refine Q.r ?_))
  refine S.cr rfl (Force_spec p q ⟨dJ 1000 0 [115] (some (frs [[97], [98]], 0)), 0, 2, false⟩ M7 L (by decide)) ?_
  obtain ⟨hf1, hf2⟩ := foce_J (room := 1000) (n := 0) (k := 2) (s := [115]) (b := frs [[97], [98]]) (f := 0) (by decide)
  rintro _ _ ⟨rfl, M8, hl8, rfl⟩
  rw [hf1, hf2]
  refine opsS_ent (L' := jnP q p 0 2 false :: diskH p (dJ 1000 0 [115] (some (frs [[97], [98]], (frs [[97], [98]]).length))) :: roM M8 :: L) (Ent.refl _) ?_
  refine Q.r ?_; (repeat (intro b1; refine Q.r ?_))
  refine S.cvj (t0 := 5) rfl rfl (fun M9 hl9 hs9 => ?_)
  generalize b1 = bc at *
  refine Q.r ?_; (repeat (intro b1; refine Q.r ?_))
  refine opsS_ent (L' := pt b1 (cl [.slice (some ⟨bc, 0, none⟩) 1 1] 31) :: roM M9 :: jnP q p 0 2 false :: diskH p (dJ 1000 0 [115] (some (frs [[97], [98]], (frs [[97], [98]]).length))) :: L) (by repeat (first | exact Ent.refl _ | exact Ent.nil | refine Ent.pick ?_ | refine Ent.nilS ?_ | refine Ent.nilM ?_ | refine Ent.drop ?_)) ?_
  refine opsS_absR b1 (t := 31) (l := [.slice (some ⟨bc, 0, none⟩) 1 1]) (m := 1) (cs := [.slice (some ⟨bc, 0, none⟩) 1 1]) (Nat.le_refl _) rfl (fun M10 hl10 hs10 => ?_)
  refine opsS_ent (L' := jnP q p 0 2 false :: diskH p (dJ 1000 0 [115] (some (frs [[97], [98]], (frs [[97], [98]]).length))) :: roM M10 :: L) (by repeat (first | exact Ent.refl _ | exact Ent.nil | refine Ent.pick ?_ | refine Ent.nilS ?_ | refine Ent.nilM ?_ | refine Ent.drop ?_)) ?_
  have hT10 := ((hT7.mono hl8).mono hl9).mono hl10
  have hR3 : ([⟨some ⟨bc, 0, none⟩, 1, [99]⟩] : List YB).map YB.bs = [[99]] := rfl
  have hok3 : okYs M10 [⟨some ⟨bc, 0, none⟩, 1, [99]⟩] := fun v hv => by
    rw [List.mem_singleton.1 hv]
    exact ⟨(hs9.mono hl10 : SlM M10 (some ⟨bc, 0, none⟩) 1 1 [B 99]), Nat.le_refl _⟩
  refine S.cr rfl (JPut_spec p q ⟨dJ 1000 0 [115] (some (frs [[97], [98]], (frs [[97], [98]]).length)), 0, 2, false⟩ (some ⟨b1, 0, none⟩) 1 [⟨some ⟨bc, 0, none⟩, 1, [99]⟩] M10 L (by decide) (by decide) (by show 2 ≤ 15; decide) hs10 hok3 hT10 (by simp) (fun v hv => by rw [List.mem_singleton.1 hv]; exact Nat.le_of_ble_eq_true rfl)) ?_
  rw [hR3]
  have hfl3 : (frs [[99]]).length = 7 := by rw [frs_len]; rfl
  have hlg3 : (lgB (some (frs [[97], [98]], (frs [[97], [98]]).length))).length = 14 := hfl
  obtain ⟨hq1, hq2⟩ := (put_J (room := 1000) (n := 0) (k := 2) (s := [115]) (lg := some (frs [[97], [98]], (frs [[97], [98]]).length)) (rs := [[99]]) (by decide) (by simp)).2 (by rw [hfl3, hlg3]; simp at hst; omega)
  rintro _ _ ⟨rfl, M11, hl11, rfl⟩
  rw [hq1, hq2]
  refine opsS_ent (L' := jnP q p 0 3 false :: diskH p (dJ 1000 0 [115] (some (frs [[97], [98]] ++ frs [[99]], (frs [[97], [98]]).length))) :: roM M11 :: L) (Ent.refl _) ?_
  refine Q.r ?_; (repeat (intro b1; refine Q.r ?_))
  refine S.ckm p rfl (Names_spec p _ M11 _) ?_
  rintro _ _ ⟨a4, c4, M12, rfl, hs12, hc12, hl12, rfl⟩
  rw [namesJ] at hs12
  rw [show (dJ 1000 0 [115] (some (frs [[97], [98]] ++ frs [[99]], (frs [[97], [98]]).length))).fs.length = 2 from rfl] at hs12 hc12 ⊢
  refine Q.r ?_; (repeat (intro b1; refine Q.r ?_))
  refine S.ckm p rfl (Crash_spec p _ none 0 [] M12 _ SlM.nil (by decide)) ?_
  rintro _ _ ⟨kf, M13, rfl, hl13, hkf1, hkf2, rfl⟩
  have hkf := hkf2 rfl
  have hcr : crD (dJ 1000 0 [115] (some (frs [[97], [98]] ++ frs [[99]], (frs [[97], [98]]).length))) kf = dJ 1000 0 [115] (some (frs [[97], [98]], (frs [[97], [98]]).length)) := by
    unfold crD dJ
    simp [hkf]
  rw [hcr]
  refine Q.r ?_; (repeat (intro b1; refine Q.r ?_))
  have hT13 := ((hT10.mono hl11).mono hl12).mono hl13
  have hE13 := ((((((((((hE2.mono hl3).mono hl4).mono hl5).mono hl6).mono hl7).mono hl8).mono hl9).mono hl10).mono hl11).mono hl12).mono hl13
  refine S.ckm p rfl (Open_spec p _ M13 _ hE13 hT13 (goodJ (by decide))) ?_
  obtain ⟨p1, p2, p3, p4, p5⟩ := open_J (room := 1000) (n := 0) (s := [115]) (R := [[97], [98]]) (lg := some (frs [[97], [98]], (frs [[97], [98]]).length)) (by decide) (fun x hx => by rcases List.mem_cons.1 hx with rfl | hx; exact ⟨by decide, by decide⟩; rw [List.mem_singleton.1 hx]; exact ⟨by decide, by decide⟩) (.inr ⟨_, Nat.le_refl _, rfl⟩)
  rintro _ _ ⟨M14, hl14, ⟨h, _⟩ | ⟨_, q2, sv2, a5, c5, us, rfl, hsv, hsvo, hsvc, hus, huo, hua, huc, rfl⟩⟩
  · exact absurd p1 h
  rw [p5] at hus
  rw [p4] at hsv
  rw [p2, p3]
  have hs14 : SlM M14 a4 2 1 ([[99, 48], [108, 48]].flatMap sC) := by
    rw [flat_sC]
    have hn1 : nm 99 0 = [99, 48] := by unfold nm; rw [decD_lo (by decide)]; rfl
    have hn2 : nm 108 0 = [108, 48] := by unfold nm; rw [decD_lo (by decide)]; rfl
    rw [hn1, hn2] at hs12
    exact (hs12.mono hl13).mono hl14
  obtain ⟨b4, o4, rfl, hr0⟩ := SlM.cm (g := sC) (k := 0) (fun _ => rfl) hs14 rfl rfl
  obtain ⟨b4', o4', e4, hr1⟩ := SlM.cm (g := sC) (k := 1) (fun _ => rfl) hs14 rfl rfl
  cases e4
  have hul : us.length = 2 := by rw [← List.length_map (f := YB.bs), hus]; rfl
  obtain ⟨u0, u1, rfl⟩ : ∃ u0 u1, us = [u0, u1] := by
    match us, hul with
    | [u0, u1], _ => exact ⟨u0, u1, rfl⟩
  simp only [List.map_cons, List.map_nil, List.cons.injEq, and_true] at hus
  obtain ⟨hu0, hu1⟩ := hus
  have hu1o := (huo u1 (by simp)).1
  obtain ⟨b5, o5, rfl, hr5⟩ := SlM.cm (g := YB.cells) (k := 1) (fun _ => rfl) hua rfl rfl
  obtain ⟨sa, sc, sbs⟩ := sv2
  have hsv2 : sbs = [115] := Option.some.inj hsv
  subst hsv2
  obtain ⟨ua, uc, ubs⟩ := u1
  dsimp only at hu1
  subst hu1
  refine Q.r ?_; (repeat (intro b1; refine Q.r ?_))
  refine S.y (by refine Y.b2s (bs := [115]) (by rfl) ?_; exact hsvo.rd) ?_
  refine Q.r ?_; (repeat (intro b1; refine Q.r ?_))
  refine S.y (by refine Y.b2s (bs := [98]) (by rfl) ?_; exact okYM.rd hu1o) ?_
  refine Q.r ?_; (repeat (intro b1; refine Q.r ?_))
  refine N.r1 (RV.tmp rfl RV.nil) (L' := roM M14 :: L) (by repeat (first | exact Ent.refl _ | exact Ent.nil | refine Ent.pick ?_ | refine Ent.nilS ?_ | refine Ent.nilM ?_ | refine Ent.drop ?_)) ⟨rfl, M14, ?_, rfl⟩
  exact hl1.trans (hl2.trans (hl3.trans (hl4.trans (hl5.trans (hl6.trans (hl7.trans (hl8.trans (hl9.trans (hl10.trans (hl11.trans (hl12.trans (hl13.trans hl14))))))))))))
end Go.Proofs.YtkleenllkjodoaaGreatDoor
namespace Go.SX
open Go Go.ChangeShapes Go.WideShapes Go.RowKit
section
variable {H : Type} {enc : TypeId × Value → H} {P : Program} {W : World}
def Rd (enc : TypeId × Value → H) (P : Program) (W : World) (t : TypeId) (cs : List Value) : Prop := ∃ n x, DataW.trod enc P W 0 (fun _ => true) true n t cs = some x
theorem cells_of {w : World} {base : Nat} {a : Addr} {n : Nat} {cs : List Value} (h : w.cells? base a n = some cs) : cs.length = n ∧ ∀ j, j < n → w.cell? (a.add j) = cs[j]? := by
  unfold World.cells? at h
  split at h
  · exact ⟨by simpa using mapM_some_length h, fun j hj => by simpa using mapM_some_get h j j (by simp [hj])⟩
  · cases h
theorem cell_block {w : World} {a : Addr} {v : Value} (h : w.cell? a = some v) : ∃ l t fz, w.heap[a.block]? = some (.cells l t fz) ∧ l[a.off]? = some v ∧ a.spot = none := by
  unfold World.cell? at h
  split at h
  · rename_i c t fz hb
    split at h
    · cases h
    · rename_i hs
      refine ⟨c, t, fz, hb, h, by simpa using hs⟩
  · cases h
theorem add_at (x y n : Nat) : (⟨x, y, none⟩ : Addr).add n = ⟨x, y + n, none⟩ := by unfold Addr.add; split <;> simp_all
theorem flat_at {sz : Nat} : ∀ {rows : List (List Value)} {j : Nat} {v : Value}, (∀ r ∈ rows, r.length = sz) → rows.flatten[j]? = some v → ∃ k r i, rows[k]? = some r ∧ r[i]? = some v ∧ j = k * sz + i
  | [], j, v, _, h => by simp at h
  | r :: rows, j, v, hr, h => by
    have h0 := hr r (by simp)
    rw [List.flatten_cons] at h
    by_cases hj : j < r.length
    · rw [List.getElem?_append_left hj] at h
      exact ⟨0, r, j, rfl, h, by simp⟩
    · rw [List.getElem?_append_right (by omega)] at h
      obtain ⟨k, r', i, h1, h2, h3⟩ := flat_at (fun x hx => hr x (by simp [hx])) h
      exact ⟨k + 1, r', i, by simpa using h1, h2, by rw [Nat.succ_mul]; omega⟩
theorem Rd.slice {t e : TypeId} {sz : Nat} {cs : List Value} (h : Rd enc P W t cs) (ht : P.underlying t = some (.slice e)) (hs : P.cellsOf e = sz) (h0 : 0 < sz) :
    ∃ (a : Option Addr) (c : Nat) (rows : List (List Value)), cs = [.slice a rows.length c] ∧ rows.length ≤ c ∧ c ≤ maxLen ∧ SlM (all0 W) a rows.length sz rows.flatten ∧ ∀ r ∈ rows, r.length = sz ∧ Rd enc P W e r := by
  obtain ⟨n, x, h⟩ := h
  rcases DataW.trod_slice ht h with ⟨rfl, _⟩ | ⟨a, len, cap, elems, rest, n, rfl, rfl, _, _, hlc, hcm, hel, hat, _⟩
  · exact ⟨none, 0, [], rfl, Nat.le_refl _, Nat.zero_le _, SlM.nil, by simp⟩
  · simp only [hs] at hat
    have hrow : ∀ i, i < len → ∃ r y, W.cells? 0 (a.add (i * sz)) sz = some r ∧ DataW.trod enc P W 0 (fun _ => true) true n e r = some y := fun i hi => by
      have := hat i hi
      have hi' : i < elems.length := by omega
      rw [List.getElem?_eq_getElem hi'] at this
      obtain ⟨r, h1, h2⟩ := Option.bind_eq_some_iff.1 this
      exact ⟨r, _, h1, h2⟩
    let rows := (List.range len).map fun i => (W.cells? 0 (a.add (i * sz)) sz).getD []
    have hrl : rows.length = len := by simp [rows]
    have hri : ∀ i r, rows[i]? = some r → i < len ∧ W.cells? 0 (a.add (i * sz)) sz = some r := fun i r hr => by
      have hi : i < len := by have := (List.getElem?_eq_some_iff.1 hr).1; omega
      obtain ⟨r', y, h1, _⟩ := hrow i hi
      refine ⟨hi, ?_⟩
      simp only [rows, List.getElem?_map, List.getElem?_range hi, Option.map_some, Option.some.injEq, h1, Option.getD_some] at hr
      rw [← hr]; exact h1
    have hmem : ∀ r ∈ rows, r.length = sz ∧ Rd enc P W e r := fun r hr => by
      obtain ⟨i, hi, rfl⟩ := List.getElem_of_mem hr
      obtain ⟨h1, h2⟩ := hri i _ (List.getElem?_eq_getElem hi)
      obtain ⟨r', y, h3, h4⟩ := hrow i h1
      rw [h2] at h3; cases h3
      exact ⟨(cells_of h2).1, n, y, h4⟩
    refine ⟨some a, cap, rows, by rw [hrl], by omega, hcm, ⟨?_, ?_⟩, hmem⟩
    · have : ∀ l : List (List Value), (∀ r ∈ l, r.length = sz) → l.flatten.length = l.length * sz := by
        intro l
        induction l with
        | nil => simp
        | cons r l ih => intro h; rw [List.flatten_cons, List.length_append, h r (by simp), ih (fun x hx => h x (by simp [hx])), List.length_cons, Nat.succ_mul]; omega
      exact this rows fun r hr => (hmem r hr).1
    · by_cases hl0 : len = 0
      · exact .inl (by omega)
      · refine .inr ?_
        obtain ⟨r0, y0, h1, _⟩ := hrow 0 (by omega)
        have h2 := (cells_of h1).2 0 h0
        have hr0 : 0 < r0.length := by rw [(cells_of h1).1]; exact h0
        rw [List.getElem?_eq_getElem hr0] at h2
        obtain ⟨l, tt, fz, hb, hc, hsp⟩ := cell_block h2
        have ea : (a.add (0 * sz)).add 0 = a := by simp [Addr.add]
        rw [ea] at hb hc hsp
        have eA : a = ⟨a.block, a.off, none⟩ := by cases a; simp_all
        refine ⟨a.block, a.off, l, tt, fz, by rw [← eA], hb, fun j v hv => ?_⟩
        obtain ⟨k, r, i, h3, h4, rfl⟩ := flat_at (fun r hr => (hmem r hr).1) hv
        obtain ⟨h5, h6⟩ := hri k r h3
        have hi : i < sz := by rw [← (cells_of h6).1]; exact (List.getElem?_eq_some_iff.1 h4).1
        have h7 := (cells_of h6).2 i hi
        rw [h4] at h7
        have e2 : (a.add (k * sz)).add i = ⟨a.block, a.off + (k * sz + i), none⟩ := by
          rw [eA, add_at, add_at, Nat.add_assoc]
        rw [e2] at h7
        simp only [World.cell?, hb] at h7
        simpa using h7
theorem Rd.list {t e : TypeId} {sz : Nat} {cs : List Value} {α : Type} {g : α → List Value} {Q : α → Prop} (he : ∀ r, Rd enc P W e r → ∃ x, r = g x ∧ Q x) (h : Rd enc P W t cs) (ht : P.underlying t = some (.slice e)) (hs : P.cellsOf e = sz) (h0 : 0 < sz) :
    ∃ (a : Option Addr) (c : Nat) (xs : List α), cs = [.slice a xs.length c] ∧ xs.length ≤ c ∧ c ≤ maxLen ∧ SlM (all0 W) a xs.length sz (xs.flatMap g) ∧ ∀ x ∈ xs, Q x := by
  obtain ⟨a, c, rows, h1, h2, h3, h4, h5⟩ := h.slice ht hs h0
  have key : ∀ rows : List (List Value), (∀ r ∈ rows, r.length = sz ∧ Rd enc P W e r) → ∃ xs : List α, rows = xs.map g ∧ ∀ x ∈ xs, Q x := by
    intro rows
    induction rows with
    | nil => exact fun _ => ⟨[], rfl, by simp⟩
    | cons r rows ih =>
      intro h
      obtain ⟨xs, e1, e2⟩ := ih fun x hx => h x (by simp [hx])
      obtain ⟨x, e3, e4⟩ := he r (h r (by simp)).2
      refine ⟨x :: xs, by rw [List.map_cons, ← e1, ← e3], fun y hy => ?_⟩
      rcases List.mem_cons.1 hy with rfl | hy
      · exact e4
      · exact e2 y hy
  obtain ⟨xs, e1, e2⟩ := key rows h5
  have el : rows.length = xs.length := by rw [e1, List.length_map]
  rw [el] at h1 h2 h4
  refine ⟨a, c, xs, h1, h2, h3, ?_, e2⟩
  rw [List.flatMap_def, ← e1]; exact h4
theorem Rd.int {t : TypeId} {k : IntKind} {cs : List Value} (h : Rd enc P W t cs) (ht : P.underlying t = some (.int k)) : ∃ n, cs = [.int k n] ∧ (Lit.int k n).wf = true := by
  obtain ⟨n, x, h⟩ := h
  obtain ⟨v, h1, _, h2⟩ := DataW.trod_int ht h
  exact ⟨v, h1, h2⟩
theorem Rd.bool {t : TypeId} {cs : List Value} (h : Rd enc P W t cs) (ht : P.underlying t = some .bool) : ∃ b, cs = [.bool b] := by
  obtain ⟨n, x, h⟩ := h
  obtain ⟨v, h1, _⟩ := DataW.trod_bool ht h
  exact ⟨v, h1⟩
theorem Rd.byte {t : TypeId} {cs : List Value} (h : Rd enc P W t cs) (ht : P.underlying t = some (.int .u8)) : ∃ x, cs = [B x] ∧ True := by
  obtain ⟨n, rfl, h1⟩ := h.int ht
  have h2 : 0 ≤ n ∧ n ≤ 255 := bounds_u8 h1
  refine ⟨UInt8.ofNat n.toNat, ?_, trivial⟩
  have : (UInt8.ofNat n.toNat).toNat = n.toNat := by simp; omega
  simp only [B, this]
  rw [Int.toNat_of_nonneg h2.1]
theorem Rd.bytes {t e : TypeId} {cs : List Value} (h : Rd enc P W t cs) (ht : P.underlying t = some (.slice e)) (he : P.underlying e = some (.int .u8)) (hs : P.cellsOf e = 1) :
    ∃ (a : Option Addr) (c : Nat) (bs : List UInt8), cs = [.slice a bs.length c] ∧ bs.length ≤ c ∧ c ≤ maxLen ∧ SlM (all0 W) a bs.length 1 (bs.map B) := by
  obtain ⟨a, c, xs, h1, h2, h3, h4, _⟩ := Rd.list (g := fun x => [B x]) (fun r hr => hr.byte he) h ht hs (by omega)
  refine ⟨a, c, xs, h1, h2, h3, ?_⟩
  have key : ∀ xs : List UInt8, xs.flatMap (fun x => [B x]) = xs.map B := fun xs => by induction xs with
    | nil => rfl
    | cons x xs ih => rw [List.flatMap_cons, ih]; rfl
  rwa [key] at h4
theorem args_again (K : Kids P (· < P.types.size)) (hz : ∀ t e, t < P.types.size → P.underlying t = some (.slice e) → 0 < P.cellsOf e) {W' : World} {ts : List TypeId} {vs : List Value} {ds : List (DataW H)} {ps : List MemPlace} (hT : ∀ t ∈ ts, t < P.types.size)
    (h : DataW.TrodAll enc P W 0 (fun _ => true) true ts vs ds ps) (hk : Kept W W') (sp : Nat → Bool) (hs : ∀ p ∈ ps, sp p.block = true) : DataW.TrodAll enc P W' 0 sp true ts vs ds ps :=
  DataW.TrodAll.respare K hz hT (trodAll_kept hk h) hs
theorem trodAll_rd : ∀ {ts : List TypeId} {vs : List Value} {ds : List (DataW H)} {ps : List MemPlace}, DataW.TrodAll enc P W 0 (fun _ => true) true ts vs ds ps → vs.length = ts.length ∧ ds.length = ts.length ∧ ∀ (i : Nat) (t : TypeId) (v : Value), ts[i]? = some t → vs[i]? = some v → Rd enc P W t v.cells.toList
  | [], [], [], _, _ => ⟨rfl, rfl, fun i t v h => by simp at h⟩
  | t :: ts, v :: vs, d :: ds, ps, ⟨p, q, ⟨n, h1⟩, h2, _⟩ => by
    obtain ⟨e1, e2, e3⟩ := trodAll_rd h2
    refine ⟨by simp [e1], by simp [e2], fun i t' v' h h' => ?_⟩
    cases i with
    | zero => simp at h h'; subst h h'; exact ⟨n, _, h1⟩
    | succ i => exact e3 i t' v' (by simpa using h) (by simpa using h')
structure Arg (enc : TypeId × Value → H) (P : Program) (W : World) (t : TypeId) (v : Value) : Prop where
  rd : Rd enc P W t v.cells.toList
  ok : ∃ base, Value.okWide P W .any base t v
theorem Arg.int {t : TypeId} {k : IntKind} {v : Value} (h : Arg enc P W t v) (ht : P.underlying t = some (.int k)) : ∃ n, v = .int k n ∧ (Lit.int k n).wf = true := by
  obtain ⟨r, _, o⟩ := h
  obtain ⟨n, rfl⟩ := okWide_int ht o
  obtain ⟨m, h1, h2⟩ := r.int ht
  simp [Value.cells] at h1
  subst h1
  exact ⟨n, rfl, h2⟩
theorem Arg.bool {t : TypeId} {v : Value} (h : Arg enc P W t v) (ht : P.underlying t = some .bool) : ∃ b, v = .bool b := by
  obtain ⟨r, _, o⟩ := h
  exact okWide_bool ht o
theorem Arg.list {t e : TypeId} {sz : Nat} {v : Value} {α : Type} {g : α → List Value} {Q : α → Prop} (h : Arg enc P W t v) (he : ∀ r, Rd enc P W e r → ∃ x, r = g x ∧ Q x) (ht : P.underlying t = some (.slice e)) (hs : P.cellsOf e = sz) (h0 : 0 < sz) :
    ∃ (a : Option Addr) (c : Nat) (xs : List α), v = .slice a xs.length c ∧ xs.length ≤ c ∧ c ≤ 9223372036854775807 ∧ SlM (all0 W) a xs.length sz (xs.flatMap g) ∧ ∀ x ∈ xs, Q x := by
  obtain ⟨r, _, o⟩ := h
  obtain ⟨a, l, c, rfl⟩ := okWide_slice ht o
  obtain ⟨a', c', xs, h1, h2, h3, h4, h5⟩ := r.list he ht hs h0
  simp [Value.cells] at h1
  obtain ⟨rfl, rfl, rfl⟩ := h1
  exact ⟨_, _, xs, rfl, h2, h3, h4, h5⟩
theorem row_post {f : FuncId} {F : Func} {s : ChangeSpec} {tb : TypeId} {args : Array Value} {ds gs : List (DataW H)} {before : List MemPlace} {handsOn again : Bool} (K : Kids P (· < P.types.size)) (hz : ∀ t e, t < P.types.size → P.underlying t = some (.slice e) → 0 < P.cellsOf e)
    (hT : (F.params.toList.all fun t => decide (t < P.types.size)) = true) (hvs : s.vars = []) (hfn : ∀ ds : List (DataW H), ds.length = F.params.toList.length → s.fn H ds = { results := [.lit (.bool true)], args := ds }) (hrt : F.resultTypes = #[tb]) (htb : P.underlying tb = some .bool)
    {base : Nat} (hval : ∀ (j : Nat) t v, F.params[j]? = some t → args[j]? = some v → Value.okWide P W .any base t v)
    (hW : DataW.Whole enc P F.params.toList s.vars false W args.toList ds gs before)
    (hw : (∀ (i : Nat) (t : TypeId) (v : Value), F.params.toList[i]? = some t → args.toList[i]? = some v → Arg enc P W t v) → args.toList.length = F.params.toList.length → CallsS P f args.toList [roM (all0 W)] (fun v _ => v = .bool true)) :
    Calls P f args W fun e W' => ∃ v, e = .returned v ∧ s.post enc P F false true handsOn again W args v W' := by
  have hW' := hW
  obtain ⟨p, q, hA, hV, rfl, hfz, hnd⟩ := hW
  rw [hvs] at hV
  obtain ⟨rfl, rfl⟩ : gs = [] ∧ q = [] := by
    cases gs with
    | nil => exact ⟨rfl, hV⟩
    | cons g gs => exact hV.elim
  obtain ⟨h1, h2, h3⟩ := trodAll_rd hA
  have hc := (hw (fun i t v e1 e2 => ⟨h3 i t v e1 e2, base, hval i t v (by simpa using e1) (by simpa using e2)⟩) h1).kept
  refine hc.mono fun e W' ⟨he, hk⟩ => ?_
  subst he
  have hf := hfn ds h2
  refine ⟨_, rfl, post_kept (pa := p) (pv := []) hW' (fun b sp hd => ?_) (fun sp hsp => ?_) (fun sp _ => ?_) rfl hk ?_⟩
  · rw [hrt, List.append_nil, hf]
    exact trodAll_cons_mk (shut_bool htb _) trodAll_mk0
  · rw [List.append_nil, hf]
    exact args_again K hz (fun t ht => of_decide_eq_true (List.all_eq_true.1 hT t ht)) hA hk sp (fun x hx => hsp x (by simp [hx]))
  · rw [hvs, List.append_nil, hf]; rfl
  · exact ok_one hrt rfl (okWide_bool_mk htb _)
end
end Go.SX
namespace Go.Proofs.YtkleenllkjodoaaGreatDoor
open Go Go.SX Go.ChangeShapes Go.WideShapes Go.ChangeAt Go.RowKit
abbrev laidL : List (String × DataW Unit) := [("math/bits.deBruijn32tab", Rows.laid_math_bits_deBruijn32tab), ("math/bits.deBruijn64tab", Rows.laid_math_bits_deBruijn64tab), ("internal/strconv.uint64pow10", Rows.laid_internal_strconv_uint64pow10), ("strconv.ErrRange", Rows.laid_strconv_ErrRange), ("strconv.ErrSyntax", Rows.laid_strconv_ErrSyntax), ("armillary/seal.nibble", Rows.laid_armillary_seal_nibble)]
theorem gNib : Tryz.prog.globalNamed "armillary/seal.nibble" = some 0 := by kernel_rfl
theorem gNibT : (Tryz.prog.globals[0]?).map (·.type) = some 125 := by kernel_rfl
theorem gErr : Tryz.prog.globalNamed "strconv.ErrSyntax" = some 3 := by kernel_rfl
theorem gErrT : (Tryz.prog.globals[3]?).map (·.type) = some 130 := by kernel_rfl
theorem starE : "*" ++ "errors.errorString" = "*errors.errorString" := by decide
theorem rowE (u : TypeId) (h : Tryz.prog.typeName? 3 u = some "*errors.errorString") : u = 184 :=
  typeName_ptr_named (nm := "errors.errorString") (by rw [starE]; kernel_rfl) (by kernel_rfl) (by decide) u (by rw [starE]; exact h)
theorem nib_is : (Rows.laid_armillary_seal_nibble : DataW Unit) = Lib.tabData .u32 (nibT.map fun z : Nat => (z : Int)) := by kernel_rfl
theorem heap_var {W : World} {n : String} {g : Nat} {cs : Array Value} (hg : Tryz.prog.globalNamed n = some g) (h : W.var? Tryz.prog n = some cs) : ∃ t fz, W.heap[g]? = some (.cells cs t fz) := by
  unfold World.var? at h
  rw [hg] at h
  simp only [Option.bind_some] at h
  cases hb : W.heap[g]? with
  | none => rw [hb] at h; cases h
  | some o =>
    rw [hb] at h
    cases o with
    | cells l t fz => dsimp only at h; cases h; exact ⟨t, fz, rfl⟩
    | _ => cases h
theorem nib_of_laid {W : World} (h : laidMet Tryz.prog laidL W) : NibM (all0 W) := by
  have h1 := h.tail.tail.tail.tail.tail
  rw [nib_is] at h1
  have h2 := Lib.tabIs_of_head gNib gNibT Tryz.underlying125 Tryz.underlying108 (by kernel_rfl) (by kernel_rfl) h1
  obtain ⟨t, fz, h3⟩ := heap_var gNib h2
  refine ⟨by decide, .inr ⟨0, 0, _, t, fz, rfl, h3, fun j v hv => ?_⟩⟩
  rw [Nat.zero_add]
  simpa [nibC, List.map_map] using hv
theorem err_of_laid {W : World} (h : laidMet Tryz.prog laidL W) : ErrM (all0 W) := by
  have h1 := h.tail.tail.tail.tail
  obtain ⟨a, s, h2, _⟩ := laid_sentinel h1 gErr gErrT Tryz.underlying130 rowE Tryz.underlying184 Tryz.underlying186 rfl rfl Tryz.underlying9 (by kernel_rfl) (by kernel_rfl)
  obtain ⟨t, fz, h3⟩ := heap_var gErr h2
  refine ⟨184, .pointer (some a), rfl, .inr ⟨3, 0, _, t, fz, rfl, h3, fun j v hv => ?_⟩⟩
  rw [Nat.zero_add]
  simpa using hv
theorem laid_fits (os : Os) : (World.holding Tryz.prog os ⟨#[], #[], []⟩).layFits Tryz.prog laidL [] = true := by kernel_rfl
theorem laid_ifaces (os : Os) : (World.holding Tryz.prog os ⟨#[], #[], []⟩).layIfaces Tryz.prog laidL (World.laidAll Tryz.prog os laidL) = true := by kernel_rfl
theorem laid_all (os : Os) (args : Array Value) : laidMet Tryz.prog laidL ((World.laidAll Tryz.prog os laidL).forCall (fun _ _ => 0) ⟨#[], args, []⟩).memory := laidMet_laidAll args (laid_fits os) (laid_ifaces os)
theorem Rd.yb {H : Type} {enc : TypeId × Value → H} {W : World} {cs : List Value} (h : Rd enc Tryz.prog W 31 cs) : ∃ v : YB, cs = v.cells ∧ (okYM (all0 W) v ∧ v.bs.length ≤ v.c) := by
  obtain ⟨a, c, bs, h1, h2, h3, h4⟩ := Rd.bytes h Tryz.underlying31 Tryz.underlying5 (by kernel_rfl)
  exact ⟨⟨a, c, bs⟩, h1, h4, h2⟩
end Go.Proofs.YtkleenllkjodoaaGreatDoor
namespace Go.Proofs.YtkleenllkjodoaaGreatDoor
open Go Go.SX
attribute [local irreducible] swp opsS thenS blockS retS CallsS St Ent YieldS anyS drawS
abbrev rjC (n : Nat) (s : YB) (ra : Option Addr) (rc m f : Nat) (lg : Bool) (room : Int) : List Value := [.int .i64 n, s.val, .slice ra m rc, .int .i64 f, .bool lg, .int .i64 room]
abbrev rjP (b n : Nat) (s : YB) (ra : Option Addr) (rc m f : Nat) (lg : Bool) (room : Int) : HP := pt b (cl (rjC n s ra rc m f lg room) 66)
def begR (room : Int) (u : YB) (M : Nat → Option Obj) (L : List HP) (r : Value) (L' : List HP) : Prop :=
  ∃ M', leM M M' ∧ ((room < (stP u.bs).length ∧ r = .tuple #[nilP, nilP, nilP] ∧ L' = roM M' :: L) ∨
    (¬ room < (stP u.bs).length ∧ ∃ q p b, r = .tuple #[ptrD q, ptrD p, ptrD b] ∧ L' = jnP q p 0 0 false :: diskH p (dJ room 0 u.bs none) :: rjP b 0 u none 0 0 0 false room :: roM M' :: L))
set_option maxHeartbeats 4000000 in
theorem begin_spec (room : Int) (u : YB) (M : Nat → Option Obj) (L : List HP) (hr : 0 ≤ room ∧ room ≤ 1048576) (hu : okYM M u) (huc : u.bs.length ≤ u.c) (hl : u.bs.length ≤ 1048575) (hE : ErrM M) (hT : NibM M) :
    CallsS Tryz.prog 10 [.int .i64 room, u.val] (roM M :: L) (begR room u M L) := by
  refine CallsS.of_body Tryz.func10 rfl rfl rfl ?_
  refine Q.r ?_; (repeat (intro b1; refine Q.r ?_))
  refine S.cr rfl (DNew_spec room _ hr) ?_
  rintro _ _ ⟨p, rfl, rfl⟩
  refine Q.r ?_; (repeat (intro b1; refine Q.r ?_))
  obtain ⟨f1, f2⟩ := fo_0 room u.bs
  refine S.ckm p rfl (Format_spec p (D0 room) u.a u.c u.bs M _ hu hT huc hl) ?_
  rintro _ _ ⟨rfl, M1, hl1, rfl⟩
  rw [f1]
  by_cases hf : room < (stP u.bs).length
  · rw [if_pos hf]
    refine Q.r ?_; (repeat (intro b1; refine Q.r ?_))
    exact N.r3 (RV.tmp rfl (RV.tmp rfl (RV.tmp rfl RV.nil))) (L' := roM M1 :: L) (by repeat (first | exact Ent.refl _ | exact Ent.nil | refine Ent.pick ?_ | refine Ent.nilS ?_ | refine Ent.nilM ?_ | refine Ent.drop ?_)) ⟨M1, hl1, .inl ⟨hf, rfl, rfl⟩⟩
  · rw [if_neg hf, f2 hf]
    refine Q.r ?_; (repeat (intro b1; refine Q.r ?_))
    refine S.ckm p rfl (Open_spec p _ M1 _ (hE.mono hl1) (hT.mono hl1) (goodJ (by decide))) ?_
    obtain ⟨o1, o2, o3, o4, o5⟩ := open_J (room := room) (n := 0) (s := u.bs) (R := []) (lg := none) (by decide) (fun x hx => by cases hx) (.inl ⟨rfl, rfl⟩)
    rintro _ _ ⟨M2, hl2, ⟨h, _⟩ | ⟨_, q, sv, a, c, vs, rfl, hsv, hso, _, hvs, _, _, _, rfl⟩⟩
    · exact absurd o1 h
    rw [o5] at hvs
    rw [o4] at hsv
    have hsv2 : sv.bs = u.bs := Option.some.inj hsv
    have hvl : vs.length = 0 := by rw [← List.length_map (f := YB.bs), hvs]; rfl
    rw [o2, o3, hvl, Option.map_none]
    refine Q.r ?_; (repeat (intro b1; refine Q.r ?_))
    refine S.cr rfl (YSame_spec sv u _ hso.rd (hu.mono (hl1.trans hl2)).rd) ?_
    rintro _ _ ⟨rfl, rfl⟩
    rw [decide_eq_true hsv2]
    refine Q.r ?_; (repeat (intro b1; refine Q.r ?_))
    exact N.r3 (RV.tmp rfl (RV.tmp rfl (RV.tmp rfl RV.nil))) (L' := jnP q p 0 0 false :: diskH p (dJ room 0 u.bs none) :: rjP b1 0 u none 0 0 0 false room :: roM M2 :: L) (by repeat (first | exact Ent.refl _ | exact Ent.nil | refine Ent.pick ?_ | refine Ent.nilS ?_ | refine Ent.nilM ?_ | refine Ent.drop ?_)) ⟨M2, hl1.trans hl2, .inr ⟨hf, q, p, b1, rfl, rfl⟩⟩
end Go.Proofs.YtkleenllkjodoaaGreatDoor
namespace Go.Proofs.YtkleenllkjodoaaGreatDoor
open Go Go.SX
attribute [local irreducible] swp opsS thenS blockS retS CallsS St Ent YieldS anyS drawS
def lgO (R : List (List UInt8)) : Option (List UInt8 × Nat) := if R = [] then none else some (frs R, 0)
theorem lgO_B (R : List (List UInt8)) : lgB (lgO R) = frs R := by
  unfold lgO
  split
  · next h => rw [h]; rfl
  · rfl
theorem lgO_F (R : List (List UInt8)) : lgF (lgO R) = 0 := by
  unfold lgO
  split <;> rfl
theorem lgO_snoc (R S : List (List UInt8)) (hS : S ≠ []) : some (lgB (lgO R) ++ frs S, lgF (lgO R)) = lgO (R ++ S) := by
  rw [lgO_B, lgO_F, ← frs_app]
  unfold lgO
  rw [if_neg (by simp [hS])]
theorem nilY (M : Nat → Option Obj) : okYM M ⟨none, 0, []⟩ := SlM.nil
def neR (b : List UInt8) : Bool := !decide (b.length = 0)
theorem frs_le {R : List (List UInt8)} {n : Nat} (h : ∀ r ∈ R, r.length ≤ n) : (frs R).length ≤ R.length * (6 + n) := by
  induction R with
  | nil => simp [frs]
  | cons x R ih =>
    have h1 := ih (fun r hr => h r (by simp [hr]))
    have h2 := h x (by simp)
    rw [frs_cons, List.length_append, frB_len, List.length_cons, Nat.succ_mul]; omega
theorem stP_nil : (stP []).length = 6 := by
  rw [stP_frs, frs_len]; rw [chL_nil]; rfl
theorem ptC_ok {rs : List (List UInt8)} (h : okRc rs) : ptC rs = 0 := by
  unfold ptC cdL
  rw [if_neg (by rintro ⟨r, hr, h0⟩; exact (h r hr).2 h0), if_neg (by rintro ⟨r, hr, h0⟩; have := (h r hr).1; omega)]
end Go.Proofs.YtkleenllkjodoaaGreatDoor
namespace Go.SX
open Go
def EntX (L : List HP) (F : List HP → Prop) : Prop := ∀ w G, St w (L ++ G) → ∃ L2, F L2 ∧ St w (L2 ++ G)
theorem EntX.ent {L L' : List HP} {F : List HP → Prop} (h : Ent L L') (hk : EntX L' F) : EntX L F := fun w G t => hk w G (h w G t)
theorem EntX.done {L : List HP} {F : List HP → Prop} (h : F L) : EntX L F := fun _ _ t => ⟨L, h, t⟩
theorem EntX.ex {α : Sort _} {X : α → HP} {L : List HP} {F : List HP → Prop} (h : ∀ x, EntX (X x :: L) F) : EntX (exH X :: L) F := fun w G t => let ⟨x, t⟩ := St.open_ex t; h x w G t
theorem EntX.pure {φ : Prop} {L : List HP} {F : List HP → Prop} (h : φ → EntX L F) : EntX (pureH φ :: L) F := fun w G t => let ⟨x, t⟩ := St.open_pure t; h x w G t
theorem EntX.abs (a : Option Addr) {t sz m c : Nat} {cs : List Value} {M : Nat → Option Obj} {L L0 L1 : List HP} {F : List HP → Prop} [h : PickS a L t sz m c cs L0] [h1 : PickM L0 M L1] (hk : ∀ M', leM M M' → SlM M' a m sz cs → EntX (roM M' :: L1) F) : EntX L F :=
  EntX.ent h.ent (EntX.ent Ent.absorb (EntX.ex fun M' => EntX.ent Ent.open_all (EntX.pure fun h => hk M' h.1 h.2)))
end Go.SX
namespace Go.Proofs.YtkleenllkjodoaaGreatDoor
open Go Go.SX
attribute [local irreducible] swp opsS thenS blockS retS CallsS St Ent YieldS anyS drawS
end Go.Proofs.YtkleenllkjodoaaGreatDoor
namespace Go.Proofs.YtkleenllkjodoaaGreatDoor
open Go Go.SX
def fJ (n : Nat) (s : List UInt8) (lg : Option (List UInt8 × Nat)) : List FE := (nm 99 n, stP s, (stP s).length) :: (match lg with | none => [] | some v => [(nm 108 n, v)])
def dn (l : Int) : Int := max (l - 1) (-1)
theorem sB1 {l : Int} (h : l ≠ 0) (room : Int) (fs : List FE) : spendB ⟨l, false, room, fs⟩ = true := by unfold spendB; simp [h]
theorem sD1 {l : Int} (h : l ≠ 0) (room : Int) (fs : List FE) : spendD ⟨l, false, room, fs⟩ = ⟨dn l, false, room, fs⟩ := by unfold spendD; rw [sB1 h]; rfl
theorem wr1E {l : Int} (h : l ≠ 0) (room : Int) (fs : List FE) (b : List UInt8) : wrE ⟨l, false, room, fs⟩ b = if room < usedD fs + b.length then 8 else 0 := by
  unfold wrE; rw [sB1 h, if_neg (by decide), sD1 h]; rfl
theorem wr1S {l : Int} (h : l ≠ 0) {room : Int} {fs : List FE} {b : List UInt8} (n : List UInt8) (hf : ¬ room < usedD fs + b.length) : wrS ⟨l, false, room, fs⟩ n b = ⟨dn l, false, room, putL fs n (((lkL fs n).getD ([], 0)).1 ++ b, ((lkL fs n).getD ([], 0)).2)⟩ := by
  unfold wrS; rw [wr1E h, if_neg hf, if_pos rfl, sD1 h]; rfl
theorem fm1E {l : Int} (h : l ≠ 0) {room : Int} {fs : List FE} {n : List UInt8} (hh : lkL fs n ≠ none) : fmE ⟨l, false, room, fs⟩ n = 0 := by unfold fmE; rw [sB1 h, if_neg (by decide), if_pos (show hasD ⟨l, false, room, fs⟩ n from hh)]
theorem fm1S {l : Int} (h : l ≠ 0) {room : Int} {fs : List FE} {n : List UInt8} (hh : lkL fs n ≠ none) : fmS ⟨l, false, room, fs⟩ n = ⟨dn l, false, room, putL fs n (((lkL fs n).getD ([], 0)).1, ((lkL fs n).getD ([], 0)).1.length)⟩ := by
  unfold fmS; rw [fm1E h hh, if_pos rfl, sD1 h]; rfl
theorem sw1E {l : Int} (h : l ≠ 0) (room : Int) (fs : List FE) : swE ⟨l, false, room, fs⟩ = 0 := by unfold swE; rw [sB1 h, if_neg (by decide)]
theorem sw1S {l : Int} (h : l ≠ 0) (room : Int) (fs : List FE) (n m : List UInt8) : swS ⟨l, false, room, fs⟩ n m = swD ⟨dn l, false, room, fs⟩ n m := by unfold swS; rw [sB1 h, if_neg (by decide), sD1 h]
theorem dr1E {l : Int} (h : l ≠ 0) (room : Int) (fs : List FE) (ns : List (List UInt8)) : drE ⟨l, false, room, fs⟩ ns = 0 := by unfold drE; rw [sB1 h, if_neg (by decide)]
theorem dr1S {l : Int} (h : l ≠ 0) (room : Int) (fs : List FE) (ns : List (List UInt8)) : drS ⟨l, false, room, fs⟩ ns = ⟨dn l, false, room, ns.foldl delL fs⟩ := by unfold drS; rw [sB1 h, if_neg (by decide), sD1 h]; rfl
theorem fJ_t (n : Nat) (s : List UInt8) (lg : Option (List UInt8 × Nat)) : ∀ u ∈ fJ n s lg, u.1 ≠ tN := by
  intro u hu
  unfold fJ at hu
  rcases List.mem_cons.1 hu with rfl | hu
  · exact nm_t n
  · cases lg with
    | none => cases hu
    | some v => rw [List.mem_singleton.1 hu]; exact nm_t' n
theorem fJ_c {n : Nat} (hn : n + 1 < 100) (s : List UInt8) (lg : Option (List UInt8 × Nat)) : ∀ u ∈ fJ n s lg, u.1 ≠ nm 99 (n + 1) := by
  intro u hu
  unfold fJ at hu
  rcases List.mem_cons.1 hu with rfl | hu
  · intro h; have := (nm_inj (by omega) hn h).2; omega
  · cases lg with
    | none => cases hu
    | some v => rw [List.mem_singleton.1 hu]; exact nm_ne' _ _
theorem putL_new {α : Type} {m : List (List UInt8 × α)} {x : List UInt8} (h : ∀ u ∈ m, u.1 ≠ x) (a : α) : putL m x a = m ++ [(x, a)] := by
  unfold putL
  rw [if_neg]
  intro h2
  obtain ⟨u, hu, hx⟩ := List.any_eq_true.1 h2
  exact h u hu (of_decide_eq_true hx)
theorem putL_app {α : Type} {m : List (List UInt8 × α)} {x : List UInt8} (h : ∀ u ∈ m, u.1 ≠ x) (a b : α) : putL (m ++ [(x, a)]) x b = m ++ [(x, b)] := putL_mid h (by simp)
theorem delL_app {α : Type} {m : List (List UInt8 × α)} {x : List UInt8} (h : ∀ u ∈ m, u.1 ≠ x) (a : α) : delL (m ++ [(x, a)]) x = m := by
  unfold delL
  rw [List.filter_append, List.filter_eq_self.2 (fun u hu => by simpa using h u hu)]
  simp
theorem fJ_used (n : Nat) (s : List UInt8) (lg : Option (List UInt8 × Nat)) : usedD (fJ n s lg) = (stP s).length + (lgB lg).length := dJ_used 0 n s lg
section
variable {l room : Int} {n k : Nat} {s s' : List UInt8} {lg : Option (List UInt8 × Nat)}
theorem fm_t (h : l ≠ 0) (b : List UInt8) (f : Nat) : fmE ⟨l, false, room, fJ n s lg ++ [(tN, b, f)]⟩ tN = 0 ∧ fmS ⟨l, false, room, fJ n s lg ++ [(tN, b, f)]⟩ tN = ⟨dn l, false, room, fJ n s lg ++ [(tN, b, b.length)]⟩ := by
  have hl : lkL (fJ n s lg ++ [(tN, b, f)]) tN = some (b, f) := lkL_mid (fJ_t n s lg)
  refine ⟨fm1E h (by rw [hl]; simp), ?_⟩
  rw [fm1S h (by rw [hl]; simp), hl, putL_app (fJ_t n s lg)]; rfl
theorem sw_t (h : l ≠ 0) (m b : List UInt8) : swS ⟨l, false, room, fJ n s lg ++ [(tN, b, b.length)]⟩ tN m = ⟨dn l, false, room, fJ n s lg ++ [(m, b, b.length)]⟩ := by
  have hl : lkL (fJ n s lg ++ [(tN, b, b.length)]) tN = some (b, b.length) := lkL_mid (fJ_t n s lg)
  rw [sw1S h]
  unfold swD fileD
  dsimp only
  rw [hl, delL_app (fJ_t n s lg)]
  dsimp only [Option.getD_some]
  rw [List.take_length]
theorem wr_t (h : l ≠ 0) {b : List UInt8} (hf : ¬ room < (((stP s).length + (lgB lg).length : Nat) : Int) + b.length) : wrE ⟨l, false, room, fJ n s lg⟩ b = 0 ∧ wrS ⟨l, false, room, fJ n s lg⟩ tN b = ⟨dn l, false, room, fJ n s lg ++ [(tN, b, 0)]⟩ := by
  have hf' : ¬ room < (usedD (fJ n s lg) : Nat) + (b.length : Int) := by rw [fJ_used]; exact hf
  refine ⟨by rw [wr1E h, if_neg hf'], ?_⟩
  rw [wr1S h _ hf', lkL_none (fJ_t n s lg), putL_new (fJ_t n s lg)]; rfl
theorem drop_J (hn : n + 1 < 100) (hk : lg.isSome = decide (0 < k)) (b : List UInt8) (f : Nat) : (oldJ ⟨⟨l, false, room, fJ n s lg⟩, n, k, false⟩).foldl delL (fJ n s lg ++ [(nm 99 (n + 1), b, f)]) = [(nm 99 (n + 1), b, f)] := by
  have h1 : nm 99 (n + 1) ≠ nm 99 n := by intro h; have := (nm_inj hn (by omega) h).2; omega
  unfold oldJ fJ
  dsimp only
  cases lg with
  | none =>
    have hk0 : ¬ 0 < k := fun h => by rw [decide_eq_true h] at hk; cases hk
    rw [if_neg hk0]
    simp only [List.foldl_cons, List.foldl_nil, List.cons_append, List.nil_append]
    rw [delL_cons, if_pos rfl, delL_cons, if_neg h1, delL_nil]
  | some v =>
    have hk0 : 0 < k := by by_cases h : 0 < k; exact h; rw [decide_eq_false h] at hk; cases hk
    rw [if_pos hk0]
    simp only [List.foldl_cons, List.foldl_nil, List.cons_append, List.nil_append]
    simp [delL_cons, delL_nil, h1, nm_ne, nm_ne']
theorem lay_k (h0 : l ≠ 0) (h1 : dn l ≠ 0) (h2 : dn (dn l) ≠ 0) (hf : ¬ room < (((stP s).length + (lgB lg).length : Nat) : Int) + (stP s').length) : layE ⟨l, false, room, fJ n s lg⟩ s' = 0 ∧ layS ⟨l, false, room, fJ n s lg⟩ s' (n + 1) = ⟨dn (dn (dn l)), false, room, fJ n s lg ++ [(nm 99 (n + 1), stP s', (stP s').length)]⟩ := by
  obtain ⟨w1, w2⟩ := wr_t (l := l) (room := room) (n := n) h0 hf
  obtain ⟨f1, f2⟩ := fm_t (l := dn l) (room := room) (n := n) (s := s) (lg := lg) h1 (stP s') 0
  refine ⟨by unfold layE; rw [w1, w2, if_neg (by decide), f1, f2, if_neg (by decide), sw1E h2], by unfold layS; rw [w1, w2, if_neg (by decide), f1, f2, if_neg (by decide), sw_t h2]⟩
theorem save_k (hn : n + 1 < 100) (hk : lg.isSome = decide (0 < k)) (h0 : l ≠ 0) (h1 : dn l ≠ 0) (h2 : dn (dn l) ≠ 0) (h3 : dn (dn (dn l)) ≠ 0) (hf : ¬ room < (((stP s).length + (lgB lg).length : Nat) : Int) + (stP s').length) : savE ⟨⟨l, false, room, fJ n s lg⟩, n, k, false⟩ s' = 0 ∧ savS ⟨⟨l, false, room, fJ n s lg⟩, n, k, false⟩ s' = ⟨⟨dn (dn (dn (dn l))), false, room, fJ (n + 1) s' none⟩, n + 1, 0, false⟩ := by
  obtain ⟨hE, hS⟩ := lay_k (l := l) (room := room) (n := n) h0 h1 h2 hf
  have hD := drop_J (l := l) (room := room) (n := n) (k := k) (s := s) (lg := lg) hn hk (stP s') (stP s').length
  exact ⟨by unfold savE; dsimp only; rw [hE, hS, if_neg (by decide), if_neg (by decide), dr1E h3], by unfold savS; dsimp only; rw [hE, hS, if_neg (by decide), if_neg (by decide), dr1E h3, dr1S h3, hD]; rfl⟩
end
end Go.Proofs.YtkleenllkjodoaaGreatDoor
namespace Go.Proofs.YtkleenllkjodoaaGreatDoor
open Go Go.SX
attribute [local irreducible] swp opsS thenS blockS retS CallsS St Ent YieldS anyS drawS
theorem few_len {us vs : List YB} {n size : Nat} (h : us.map YB.bs = (vs.take n).map (fun v => v.bs.take size)) : us.length ≤ n ∧ ∀ u ∈ us, u.bs.length ≤ size := by
  refine ⟨?_, fun u hu => ?_⟩
  · have := congrArg List.length h
    rw [List.length_map, List.length_map, List.length_take] at this; omega
  · have : u.bs ∈ us.map YB.bs := List.mem_map_of_mem hu
    rw [h] at this
    obtain ⟨v, _, hv⟩ := List.mem_map.1 this
    rw [← hv, List.length_take]; omega
theorem okRc_le {R : List (List UInt8)} {n : Nat} (h : ∀ r ∈ R, r.length ≤ n) (hn : R.length ≤ 8) (hn2 : n ≤ 300) : (frs R).length ≤ 2448 := by
  have := frs_le h
  have h2 : R.length * (6 + n) ≤ 8 * 306 := Nat.mul_le_mul hn (by omega)
  omega
theorem put_out {room : Int} {n : Nat} {s : List UInt8} (rs : List (List UInt8)) : ∃ (k : Nat) (lg : Option (List UInt8 × Nat)),
    ptS ⟨dJ room n s none, n, 0, false⟩ rs = ⟨dJ room n s lg, n, k, false⟩ ∧ lg.isSome = decide (0 < k) ∧ (lgB lg).length ≤ (frs rs).length ∧ k ≤ rs.length := by
  by_cases hc : ptC rs = 0 ∧ rs ≠ []
  · obtain ⟨h1, h2⟩ := put_J (room := room) (n := n) (k := 0) (s := s) (lg := none) hc.1 hc.2
    by_cases hf : room < ((stP s).length + (lgB none).length : Nat) + ((frs rs).length : Nat)
    · exact ⟨0, none, (h1 hf).2, rfl, Nat.zero_le _, Nat.zero_le _⟩
    · refine ⟨0 + rs.length, _, (h2 hf).2, ?_, ?_, by omega⟩
      · rw [decide_eq_true]; rfl
        rw [Nat.zero_add]; exact List.length_pos_iff.2 hc.2
      · show ([] ++ frs rs).length ≤ _
        rw [List.nil_append]; exact Nat.le_refl _
  · obtain ⟨_, h2⟩ := put_no (s := ⟨dJ room n s none, n, 0, false⟩) (rs := rs) rfl (by by_cases h : ptC rs = 0; exact .inr (Classical.byContradiction fun hh => hc ⟨h, hh⟩); exact .inl h)
    exact ⟨0, none, h2, rfl, Nat.zero_le _, Nat.zero_le _⟩
theorem old_has {room : Int} {n k : Nat} {s : List UInt8} {lg : Option (List UInt8 × Nat)} (hk : lg.isSome = decide (0 < k)) : ∀ m ∈ oldJ ⟨dJ room n s lg, n, k, false⟩, hasD (dJ room n s lg) m := by
  intro m hm
  unfold oldJ at hm
  rcases List.mem_cons.1 hm with rfl | hm
  · unfold hasD; rw [lkJc]; simp
  · split at hm
    · next h0 =>
      rw [List.mem_singleton.1 hm]
      unfold hasD; rw [lkJl]
      intro h
      rw [h, decide_eq_true h0] at hk; cases hk
    · cases hm
theorem new_no {room : Int} {n : Nat} {s : List UInt8} {lg : Option (List UInt8 × Nat)} (hn : n + 1 < 100) : ¬ hasD (dJ room n s lg) (nm 99 (n + 1)) := fun h => h (lkL_none (fJ_c hn s lg))
set_option maxHeartbeats 8000000 in
theorem JournalSaves_spec (ar : Option Addr) (cr : Nat) (ss : List YB) (a : Option Addr) (c : Nat) (vs : List YB) (M : Nat → Option Obj) (L : List HP) (hs : SlM M ar ss.length 1 (ss.flatMap YB.cells)) (hso : okYs M ss) (hsl : ss.length ≤ 9223372036854775807) (h : SlM M a vs.length 1 (vs.flatMap YB.cells)) (hok : okYs M vs) (hl : vs.length ≤ 9223372036854775807) (hE : ErrM M) (hT : NibM M) :
    CallsS Tryz.prog 7 [.slice ar ss.length cr, .slice a vs.length c] (roM M :: L) (fun v _ => v = .bool true) := by
  refine CallsS.of_body Tryz.func7 rfl rfl rfl ?_
  refine Q.r ?_; (repeat (intro b1; refine Q.r ?_))
  refine S.cr rfl (awakeJ_spec M _ hE hT) ?_
  rintro _ _ ⟨rfl, M1, hl1, rfl⟩
  have hE1 := hE.mono hl1
  have hT1 := hT.mono hl1
  refine Q.r ?_; (repeat (intro b1; refine Q.r ?_))
  have hfit : ¬ (1048576 : Int) < ((stP (YB.bs ⟨none, 0, []⟩)).length : Nat) := by rw [show YB.bs ⟨none, 0, []⟩ = [] from rfl, stP_nil]; decide
  refine S.cr rfl (begin_spec 1048576 ⟨none, 0, []⟩ M1 _ (by decide) (nilY _) (Nat.le_refl _) (by decide) hE1 hT1) ?_
  rintro _ _ ⟨M2, hl2, ⟨hx, _⟩ | ⟨_, q1, p1, b1', rfl, rfl⟩⟩
  · exact absurd hx hfit
  refine Q.r ?_; (repeat (intro b1; refine Q.r ?_))
  refine swp_cutB (σ := Nat × YB × (Nat → Option Obj)) (fun s => [(1, .slice a vs.length c), (5, ptrD q1), (6, ptrD p1), (8, s.2.1.val)])
    (fun s => jnP q1 p1 s.1 0 false :: diskH p1 (dJ 1048576 s.1 s.2.1.bs none) :: roM s.2.2 :: L) (fun s => s.1 ≤ 6 ∧ okYM s.2.2 s.2.1 ∧ s.2.1.bs.length ≤ 9000 ∧ leM M2 s.2.2) ?_ ?_
  · refine swp_loop (σ := Nat × YB × (Nat → Option Obj)) (fun s => [(1, .slice a vs.length c), (5, ptrD q1), (6, ptrD p1), (27, .slice ar ss.length cr), (28, .int .i64 ss.length), (29, .int .i64 s.1), (8, s.2.1.val)])
      (fun s => jnP q1 p1 s.1 0 false :: diskH p1 (dJ 1048576 s.1 s.2.1.bs none) :: roM s.2.2 :: L)
      (fun s => s.1 ≤ ss.length ∧ s.1 ≤ 6 ∧ okYM s.2.2 s.2.1 ∧ s.2.1.bs.length ≤ 9000 ∧ leM M2 s.2.2) (fun s => ss.length - s.1) (0, ⟨some ⟨b1, 0, none⟩, 0, []⟩, M2) ⟨rfl, rfl, rfl, rfl, rfl, rfl, rfl, trivial⟩ (by repeat (first | exact Ent.refl _ | exact Ent.nil | refine Ent.pick ?_ | refine Ent.nilS ?_ | refine Ent.nilM ?_ | refine Ent.drop ?_)) ⟨Nat.zero_le _, Nat.zero_le _, ⟨rfl, .inl rfl⟩, Nat.zero_le _, leM.refl M2⟩ ?_
    rintro ⟨i, u, M3⟩ ⟨hi, hi6, huo, hul, hl3⟩
    dsimp only at hi hi6 huo hul hl3 ⊢
    by_cases hlt : i < ss.length
    · obtain ⟨w, hw⟩ := mem_get hlt
      obtain ⟨b, o, rfl, hr⟩ := SlM.cm (g := YB.cells) (fun _ => rfl) ((hs.mono hl1).mono (hl2.trans hl3)) hw rfl
      by_cases hi5 : i < 6
      · have hi5' : ¬ (6 : Int) ≤ (i : Int) := by omega
        refine Q.r ?_; (repeat (intro b1; refine Q.r ?_))
        refine opsS_ent (L' := roM M3 :: jnP q1 p1 i 0 false :: diskH p1 (dJ 1048576 i u.bs none) :: L) (by repeat (first | exact Ent.refl _ | exact Ent.nil | refine Ent.pick ?_ | refine Ent.nilS ?_ | refine Ent.nilM ?_ | refine Ent.drop ?_)) ?_
        refine S.cr rfl (Few6_spec a c vs 5 100 M3 _ ((h.mono hl1).mono (hl2.trans hl3)) ((hok.mono hl1).mono (hl2.trans hl3)) (by decide) (by decide) hl) ?_
        rintro _ _ ⟨a4, c4, rfl, us, M4, hus, huo4, hl4, rfl⟩
        rw [← hus, List.length_map]
        obtain ⟨hu1, hu2⟩ := few_len hus
        refine opsS_absc a4 (fun M5 hl5 hs5 hc5 => ?_)
        refine opsS_ent (L' := jnP q1 p1 i 0 false :: diskH p1 (dJ 1048576 i u.bs none) :: roM M5 :: L) (by repeat (first | exact Ent.refl _ | exact Ent.nil | refine Ent.pick ?_ | refine Ent.nilS ?_ | refine Ent.nilM ?_ | refine Ent.drop ?_)) ?_
        have hT5 := hT1.mono (hl2.trans (hl3.trans (hl4.trans hl5)))
        refine S.cr rfl (JPut_spec p1 q1 ⟨dJ 1048576 i u.bs none, i, 0, false⟩ a4 c4 us M5 _ (by show i < 100; omega) (Nat.zero_le _) (Nat.le_trans (dJ_len _ _ _ _) (by decide)) hs5 (huo4.mono hl5) hT5 (by omega) (fun v hv => by have := hu2 v hv; omega)) ?_
        obtain ⟨k, lg, hS, hk, hlg, hkl⟩ := put_out (room := 1048576) (n := i) (s := u.bs) (us.map YB.bs)
        have hfr := okRc_le (R := us.map YB.bs) (n := 100) (fun r hr => by obtain ⟨v, hv, rfl⟩ := List.mem_map.1 hr; exact hu2 v hv) (by rw [List.length_map]; omega) (by decide)
        rintro _ _ ⟨rfl, M6, hl6, rfl⟩
        rw [hS]
        refine opsS_ent (L' := jnP q1 p1 i k false :: diskH p1 (dJ 1048576 i u.bs lg) :: roM M6 :: L) (Ent.refl _) ?_
        refine Q.r ?_; (repeat (intro b1; refine Q.r ?_))
        have hl26 := hl2.trans (hl3.trans (hl4.trans (hl5.trans hl6)))
        have hwm := List.mem_of_getElem? hw
        refine S.cr rfl (RCut_spec w.a w.c w.bs 9000 _ (((hso w hwm).1.mono (hl1.trans hl26)).rd) (hso w hwm).2 (by decide)) ?_
        rintro _ _ ⟨a2, c2, rfl, rfl⟩
        obtain ⟨x, hx⟩ : ∃ x, x = w.bs.take 9000 := ⟨_, rfl⟩
        have hxl : x.length ≤ 9000 := by rw [hx, List.length_take]; omega
        rw [← hx]
        refine opsS_absc a2 (fun M7 hl7 hs7 hc7 => ?_)
        refine Q.r ?_; (repeat (intro b1; refine Q.r ?_))
        have hst1 := stP_len u.bs
        have hst2 := stP_len x
        obtain ⟨e1, e2⟩ := save_k (l := -1) (room := 1048576) (n := i) (k := k) (s := u.bs) (s' := x) (lg := lg) (by omega) hk (by decide) (by decide) (by decide) (by decide) (by omega)
        refine opsS_ent (L' := jnP q1 p1 i k false :: diskH p1 (dJ 1048576 i u.bs lg) :: roM M7 :: L) (by repeat (first | exact Ent.refl _ | exact Ent.nil | refine Ent.pick ?_ | refine Ent.nilS ?_ | refine Ent.nilM ?_ | refine Ent.drop ?_)) ?_
        refine S.cr rfl (Save_spec p1 q1 ⟨dJ 1048576 i u.bs lg, i, k, false⟩ a2 c2 x M7 _ (by show i + 1 < 100; omega) (dJ_key _ _ _ _) (Nat.le_trans (dJ_len _ _ _ _) (by decide)) hs7 (hT5.mono (hl6.trans hl7)) hc7 (by omega) (new_no (by omega)) (old_has hk)) ?_
        rintro _ _ ⟨rfl, M8, hl8, rfl⟩
        rw [show savE ⟨dJ 1048576 i u.bs lg, i, k, false⟩ x = 0 from e1, show savS ⟨dJ 1048576 i u.bs lg, i, k, false⟩ x = ⟨dJ 1048576 (i + 1) x none, i + 1, 0, false⟩ from e2]
        refine opsS_ent (L' := jnP q1 p1 (i + 1) 0 false :: diskH p1 (dJ 1048576 (i + 1) x none) :: roM M8 :: L) (Ent.refl _) ?_
        refine Q.r ?_; (repeat (intro b1; refine Q.r ?_))
        refine S.cr rfl (Count_spec q1 p1 (i + 1) 0 false _) ?_
        rintro _ _ ⟨rfl, rfl⟩
        refine Q.r ?_; (repeat (intro b1; refine Q.r ?_))
        refine S.cr rfl (Gen_spec q1 p1 (i + 1) 0 false _) ?_
        rintro _ _ ⟨rfl, rfl⟩
        refine Q.r ?_; (repeat (intro b1; refine Q.r ?_))
        refine S.ckm p1 rfl (Names_spec p1 _ M8 _) ?_
        rintro _ _ ⟨a9, c9, M9, rfl, _, _, hl9, rfl⟩
        have hn1 : (dJ 1048576 (i + 1) x none).fs.length = 1 := rfl
        rw [hn1]
        refine Q.r ?_; (repeat (intro b1; refine Q.r ?_))
        exact ⟨(i + 1, ⟨a2, c2, x⟩, M9), ⟨rfl, rfl, rfl, rfl, rfl, rfl, rfl, trivial⟩, by repeat (first | exact Ent.refl _ | exact Ent.nil | refine Ent.pick ?_ | refine Ent.nilS ?_ | refine Ent.nilM ?_ | refine Ent.drop ?_), ⟨by show i + 1 ≤ ss.length; omega, by show i + 1 ≤ 6; omega, (SlM.mono hs7 (hl8.trans hl9)), hxl, hl3.trans (hl4.trans (hl5.trans (hl6.trans (hl7.trans (hl8.trans hl9)))))⟩, by show ss.length - (i + 1) < ss.length - i; omega⟩
      · have hi5' : (6 : Int) ≤ (i : Int) := by omega
        refine Q.r ?_; (repeat (intro b1; refine Q.r ?_))
        exact ⟨(i, u, M3), ⟨rfl, rfl, rfl, rfl, trivial⟩, Ent.refl _, hi6, huo, hul, hl3⟩
    · have hke : i = ss.length := by omega
      subst hke
      refine Q.r ?_; (repeat (intro b1; refine Q.r ?_))
      exact ⟨(ss.length, u, M3), ⟨rfl, rfl, rfl, rfl, trivial⟩, Ent.refl _, hi6, huo, hul, hl3⟩
  · rintro ⟨n, u, M3⟩ ⟨hn6, huo, hul, hl3⟩
    dsimp only at hn6 huo hul hl3 ⊢
    refine Q.r ?_; (repeat (intro b1; refine Q.r ?_))
    refine opsS_ent (L' := roM M3 :: jnP q1 p1 n 0 false :: diskH p1 (dJ 1048576 n u.bs none) :: L) (by repeat (first | exact Ent.refl _ | exact Ent.nil | refine Ent.pick ?_ | refine Ent.nilS ?_ | refine Ent.nilM ?_ | refine Ent.drop ?_)) ?_
    refine S.cr rfl (Few6_spec a c vs 5 100 M3 _ ((h.mono hl1).mono (hl2.trans hl3)) ((hok.mono hl1).mono (hl2.trans hl3)) (by decide) (by decide) hl) ?_
    rintro _ _ ⟨a4, c4, rfl, us, M4, hus, huo4, hl4, rfl⟩
    rw [← hus, List.length_map]
    obtain ⟨hu1, hu2⟩ := few_len hus
    refine opsS_absc a4 (fun M5 hl5 hs5 hc5 => ?_)
    have hT5 := hT1.mono (hl2.trans (hl3.trans (hl4.trans hl5)))
    have huo5 := huo4.mono hl5
    have hst := stP_len u.bs
    refine Q.r ?_; (repeat (intro b1; refine Q.r ?_))
    refine swp_cutB (σ := List YB × Option Addr × Nat × (Nat → Option Obj)) (fun s => [(5, ptrD q1), (6, ptrD p1), (8, u.val), (11, .slice s.2.1 s.1.length s.2.2.1)])
      (fun s => slO 31 1 s.2.1 s.1.length s.2.2.1 (s.1.flatMap YB.cells) :: jnP q1 p1 n s.1.length false :: diskH p1 (dJ 1048576 n u.bs (lgO (s.1.map YB.bs))) :: roM s.2.2.2 :: L) (fun s => s.1 = us.filter (fun v => neR v.bs) ∧ leM M5 s.2.2.2) ?_ ?_
    · refine swp_loop (σ := Nat × List YB × Option Addr × Nat × (Nat → Option Obj)) (fun s => [(5, ptrD q1), (6, ptrD p1), (8, u.val), (66, .slice a4 us.length c4), (67, .int .i64 us.length), (68, .int .i64 s.1), (11, .slice s.2.2.1 s.2.1.length s.2.2.2.1)])
        (fun s => slO 31 1 s.2.2.1 s.2.1.length s.2.2.2.1 (s.2.1.flatMap YB.cells) :: jnP q1 p1 n s.2.1.length false :: diskH p1 (dJ 1048576 n u.bs (lgO (s.2.1.map YB.bs))) :: roM s.2.2.2.2 :: L)
        (fun s => s.1 ≤ us.length ∧ s.2.1 = (us.take s.1).filter (fun v => neR v.bs) ∧ leM M5 s.2.2.2.2) (fun s => us.length - s.1) (0, [], none, 0, M5) ⟨rfl, rfl, rfl, rfl, rfl, rfl, rfl, trivial⟩ (Ent.trans (M := jnP q1 p1 n 0 false :: diskH p1 (dJ 1048576 n u.bs none) :: roM M5 :: L) (by repeat (first | exact Ent.refl _ | exact Ent.nil | refine Ent.pick ?_ | refine Ent.nilS ?_ | refine Ent.nilM ?_ | refine Ent.drop ?_)) slO_nil) ⟨Nat.zero_le _, rfl, leM.refl M5⟩ ?_
      rintro ⟨k, ws, a9, c9, M6⟩ ⟨hk, hws, hl6⟩
      dsimp only at hk hws hl6 ⊢
      by_cases hlt : k < us.length
      · obtain ⟨v, hv⟩ := mem_get hlt
        obtain ⟨b, o, rfl, hr⟩ := SlM.cm (g := YB.cells) (fun _ => rfl) (hs5.mono hl6) hv rfl
        have hvm := List.mem_of_getElem? hv
        have hub0 := hu2 v hvm
        have hfl : (us.take (k + 1)).filter (fun v => neR v.bs) = ws ++ if neR v.bs then [v] else [] := by
          rw [take_snoc hv, List.filter_append, ← hws, List.filter_cons, List.filter_nil]
        have hwm : ∀ w ∈ ws, w ∈ us ∧ w.bs.length ≠ 0 := fun w hw => by
          rw [hws] at hw
          obtain ⟨h1, h2⟩ := List.mem_filter.1 hw
          exact ⟨List.mem_of_mem_take h1, by unfold neR at h2; simpa using h2⟩
        have hwl : ws.length ≤ 5 := by
          rw [hws]; exact Nat.le_trans (List.length_filter_le _ _) (by rw [List.length_take]; omega)
        have hw3 := okRc_le (R := ws.map YB.bs) (n := 100) (fun r hr => by obtain ⟨w, hw, rfl⟩ := List.mem_map.1 hr; exact hu2 w (hwm w hw).1) (by rw [List.length_map]; omega) (by decide)
        have hw1 := okRc_le (R := [v.bs]) (n := 100) (fun r hr => by rw [List.mem_singleton.1 hr]; exact hub0) (by simp) (by decide)
        refine Q.r ?_; (repeat (intro b1; refine Q.r ?_))
        refine opsS_ent (L' := pt b1 (cl [v.val] 31) :: roM M6 :: jnP q1 p1 n ws.length false :: diskH p1 (dJ 1048576 n u.bs (lgO (ws.map YB.bs))) :: slO 31 1 a9 ws.length c9 (ws.flatMap YB.cells) :: L) (by repeat (first | exact Ent.refl _ | exact Ent.nil | refine Ent.pick ?_ | refine Ent.nilS ?_ | refine Ent.nilM ?_ | refine Ent.drop ?_)) ?_
        refine opsS_absR b1 (t := 31) (l := [v.val]) (m := 1) (cs := [v.val]) (Nat.le_refl _) rfl (fun M7 hl7 hs7 => ?_)
        refine opsS_ent (L' := jnP q1 p1 n ws.length false :: diskH p1 (dJ 1048576 n u.bs (lgO (ws.map YB.bs))) :: roM M7 :: slO 31 1 a9 ws.length c9 (ws.flatMap YB.cells) :: L) (by repeat (first | exact Ent.refl _ | exact Ent.nil | refine Ent.pick ?_ | refine Ent.nilS ?_ | refine Ent.nilM ?_ | refine Ent.drop ?_)) ?_
        refine S.cr rfl (JPut_spec p1 q1 ⟨dJ 1048576 n u.bs (lgO (ws.map YB.bs)), n, ws.length, false⟩ (some ⟨b1, 0, none⟩) 1 [v] M7 _ (by show n < 100; omega) (by show ws.length ≤ _; omega) (Nat.le_trans (dJ_len _ _ _ _) (by decide)) hs7 (fun x hx => by rw [List.mem_singleton.1 hx]; exact (huo5.mono (hl6.trans hl7)) v hvm) ((hT5.mono hl6).mono hl7) (by simp) (fun x hx => by rw [List.mem_singleton.1 hx]; omega)) ?_
        by_cases h0 : v.bs.length = 0
        · have hn : neR v.bs = false := by unfold neR; rw [decide_eq_true h0]; rfl
          rw [hn, if_neg (by decide), List.append_nil] at hfl
          have hpt : ptC [v.bs] = 2 := by unfold ptC; rw [if_pos ⟨v.bs, by simp, h0⟩]
          obtain ⟨hp1, hp2⟩ := put_no (s := ⟨dJ 1048576 n u.bs (lgO (ws.map YB.bs)), n, ws.length, false⟩) (rs := [v.bs]) rfl (.inl (by rw [hpt]; decide))
          rw [hpt] at hp1
          rintro _ _ ⟨rfl, M8, hl8, rfl⟩
          rw [show [v].map YB.bs = [v.bs] from rfl, hp1, hp2]
          refine opsS_ent (L' := jnP q1 p1 n ws.length false :: diskH p1 (dJ 1048576 n u.bs (lgO (ws.map YB.bs))) :: roM M8 :: slO 31 1 a9 ws.length c9 (ws.flatMap YB.cells) :: L) (Ent.refl _) ?_
          refine Q.r ?_; (repeat (intro b1; refine Q.r ?_))
          exact ⟨(k + 1, ws, a9, c9, M8), ⟨rfl, rfl, rfl, rfl, rfl, rfl, rfl, trivial⟩, by repeat (first | exact Ent.refl _ | exact Ent.nil | refine Ent.pick ?_ | refine Ent.nilS ?_ | refine Ent.nilM ?_ | refine Ent.drop ?_), ⟨by show k + 1 ≤ us.length; omega, hfl.symm, hl6.trans (hl7.trans hl8)⟩, by show us.length - (k + 1) < us.length - k; omega⟩
        · have hn : neR v.bs = true := by unfold neR; rw [decide_eq_false h0]; rfl
          rw [hn, if_pos rfl] at hfl
          have hR1 : okRc [v.bs] := fun x hx => by rw [List.mem_singleton.1 hx]; exact ⟨by omega, h0⟩
          obtain ⟨hp1, hp2⟩ := (put_J (room := 1048576) (n := n) (k := ws.length) (s := u.bs) (lg := lgO (ws.map YB.bs)) (rs := [v.bs]) (ptC_ok hR1) (by simp)).2 (by rw [lgO_B]; omega)
          rintro _ _ ⟨rfl, M8, hl8, rfl⟩
          rw [show [v].map YB.bs = [v.bs] from rfl, hp1, hp2, lgO_snoc _ _ (by simp)]
          refine opsS_ent (L' := jnP q1 p1 n (ws.length + 1) false :: diskH p1 (dJ 1048576 n u.bs (lgO (ws.map YB.bs ++ [v.bs]))) :: roM M8 :: slO 31 1 a9 ws.length c9 (ws.flatMap YB.cells) :: L) (Ent.refl _) ?_
          refine Q.r ?_; (repeat (intro b1; refine Q.r ?_))
          refine S.app rfl rfl (SrcS.sl RdC.row (by rfl) (by rfl)) (by rfl) (by omega) (by omega) (fun a7 c7 => ?_)
          refine Q.r ?_; (repeat (intro b1; refine Q.r ?_))
          refine ⟨(k + 1, ws ++ [v], a7, c7, M8), ⟨rfl, rfl, rfl, rfl, rfl, rfl, congrArg some (by simp), trivial⟩, ?_, ⟨by show k + 1 ≤ us.length; omega, hfl.symm, hl6.trans (hl7.trans hl8)⟩, by show us.length - (k + 1) < us.length - k; omega⟩
          dsimp only
          rw [len_snoc, flat_snoc, List.map_append]
          exact Ent.trans (M := slO 31 1 a7 (ws.length + 1) c7 (ws.flatMap YB.cells ++ v.cells) :: jnP q1 p1 n (ws.length + 1) false :: diskH p1 (dJ 1048576 n u.bs (lgO (ws.map YB.bs ++ [v.bs]))) :: roM M8 :: L) (by repeat (first | exact Ent.refl _ | exact Ent.nil | refine Ent.pick ?_ | refine Ent.nilS ?_ | refine Ent.nilM ?_ | refine Ent.drop ?_)) (Ent.refl _)
      · have hke : k = us.length := by omega
        subst hke
        rw [List.take_length] at hws
        refine Q.r ?_; (repeat (intro b1; refine Q.r ?_))
        exact ⟨(ws, a9, c9, M6), ⟨rfl, rfl, rfl, rfl, trivial⟩, Ent.refl _, hws, hl6⟩
    · rintro ⟨ws, a9, c9, M6⟩ ⟨hws, hl6⟩
      dsimp only at hws hl6 ⊢
      refine Q.r ?_; (repeat (intro b1; refine Q.r ?_))
      have hwm : ∀ w ∈ ws, w ∈ us ∧ w.bs.length ≠ 0 := fun w hw => by
        rw [hws] at hw
        obtain ⟨h1, h2⟩ := List.mem_filter.1 hw
        exact ⟨h1, by unfold neR at h2; simpa using h2⟩
      have hRw : okRc (ws.map YB.bs) := fun x hx => by
        obtain ⟨w, hw, rfl⟩ := List.mem_map.1 hx
        have := hu2 w (hwm w hw).1
        exact ⟨by omega, (hwm w hw).2⟩
      have hlgo : (lgO (ws.map YB.bs) = none ∧ ws.map YB.bs = []) ∨ ∃ f, f ≤ (frs (ws.map YB.bs)).length ∧ lgO (ws.map YB.bs) = some (frs (ws.map YB.bs), f) := by
        unfold lgO
        split
        · next h => exact .inl ⟨rfl, h⟩
        · exact .inr ⟨0, Nat.zero_le _, rfl⟩
      have hE6 : ErrM M6 := hE1.mono (hl2.trans (hl3.trans (hl4.trans (hl5.trans hl6))))
      refine S.ckm p1 rfl (Open_spec p1 _ M6 _ hE6 (hT5.mono hl6) (goodJ (by omega))) ?_
      obtain ⟨o1, o2, o3, o4, o5⟩ := open_J (room := 1048576) (n := n) (s := u.bs) (R := ws.map YB.bs) (lg := lgO (ws.map YB.bs)) (by omega) hRw hlgo
      rintro _ _ ⟨M7, hl7, ⟨h, _⟩ | ⟨_, q, sv, ao, co, vs2, rfl, hsv, hsv2, _, hvs, hvo, hvS, _, rfl⟩⟩
      · exact absurd o1 h
      rw [o5] at hvs
      rw [o4] at hsv
      have hsb : sv.bs = u.bs := Option.some.inj hsv
      have hvl : vs2.length = ws.length := by rw [← List.length_map (f := YB.bs), hvs, List.length_map]
      rw [o2, o3]
      refine Q.r ?_; (repeat (intro b1; refine Q.r ?_))
      refine opsS_absc a9 (fun M8 hl8 hs8 hc8 => ?_)
      have hl38 : leM M3 M8 := hl4.trans (hl5.trans (hl6.trans (hl7.trans hl8)))
      refine opsS_ent (L' := jnP q p1 n vs2.length false :: pt b1 (cl [sv.val, .slice ao vs2.length co] 37) :: diskH p1 (dJ 1048576 n u.bs ((lgO (ws.map YB.bs)).map fun _ => (frs (ws.map YB.bs), (frs (ws.map YB.bs)).length))) :: roM M8 :: L) (by repeat (first | exact Ent.refl _ | exact Ent.nil | refine Ent.pick ?_ | refine Ent.nilS ?_ | refine Ent.nilM ?_ | refine Ent.drop ?_)) ?_
      refine S.cr rfl (Count_spec q p1 n vs2.length false _) ?_
      rintro _ _ ⟨rfl, rfl⟩
      refine Q.r ?_; (repeat (intro b1; refine Q.r ?_))
      have hvl' : (vs2.length : Int) = ws.length := by omega
      refine Q.r ?_; (repeat (intro b1; refine Q.r ?_))
      refine S.cr rfl (YSame_spec sv u _ (hsv2.mono hl8).rd (huo.mono hl38).rd) ?_
      rintro _ _ ⟨rfl, rfl⟩
      rw [decide_eq_true hsb]
      refine Q.r ?_; (repeat (intro b1; refine Q.r ?_))
      refine opsS_ent (L' := roM M8 :: pt b1 (cl [sv.val, .slice ao vs2.length co] 37) :: diskH p1 (dJ 1048576 n u.bs ((lgO (ws.map YB.bs)).map fun _ => (frs (ws.map YB.bs), (frs (ws.map YB.bs)).length))) :: L) (by repeat (first | exact Ent.refl _ | exact Ent.nil | refine Ent.pick ?_ | refine Ent.nilS ?_ | refine Ent.nilM ?_ | refine Ent.drop ?_)) ?_
      refine S.cr rfl (Same6_spec ao a9 co c9 vs2 ws M8 _ (hvS.mono hl8) (hvo.mono hl8) hs8 (fun v hv => (huo5.mono (hl6.trans (hl7.trans hl8))) v (hwm v hv).1) (by rw [hvl, hws]; exact Nat.le_trans (List.length_filter_le _ _) (by omega)) ) ?_
      rintro _ _ ⟨rfl, rfl⟩
      rw [decide_eq_true hvs]
      refine Q.r ?_; (repeat (intro b1; refine Q.r ?_))
      refine S.ckm p1 rfl (Names_spec p1 _ M8 _) ?_
      rintro _ _ ⟨a5, c5, M9, rfl, _, _, hl9, rfl⟩
      have hd2 := dJ_len 1048576 n u.bs ((lgO (ws.map YB.bs)).map fun _ => (frs (ws.map YB.bs), (frs (ws.map YB.bs)).length))
      have hd2' : ((dJ 1048576 n u.bs ((lgO (ws.map YB.bs)).map fun _ => (frs (ws.map YB.bs), (frs (ws.map YB.bs)).length))).fs.length : Int) ≤ 2 := by omega
      refine Q.r ?_; (repeat (intro b1; refine Q.r ?_))
      exact N.r1 (RV.tmp rfl RV.nil) (Ent.refl _) (by rw [decide_eq_true hd2'])
end Go.Proofs.YtkleenllkjodoaaGreatDoor
