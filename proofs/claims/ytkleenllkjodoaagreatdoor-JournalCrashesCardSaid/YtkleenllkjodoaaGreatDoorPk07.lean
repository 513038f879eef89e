/- A journal's steps while the power is there; pure. The law's example. Readings opened: from what the arguments read as to cells that stay; rows. The journal's rows: what the listed variables hold. A Save, with so much power left; pure. What a disk with a generation says when it is opened, whatever power is left; pure. A disk with a generation is opened, with any power, and with all; pure. The document's Sum, Num, Copy, Low. What follows behind a call, by what lies there. The document's Num, Copy, Next. The document's Next. The document's Low, Frame, State. The law's begin. JournalMany. The document's bytes, Used, Put, Save, Copy. JournalAll. JournalSaves. The document's Save, Copy; the law's state, fits; Ends. No condition. -/
import Derived.ReadAgain
import Derived.ChangeArms
import Derived.WideShapes
import Derived.KernelRfl
import Derived.Test.YtkleenllkjodoaaGreatDoorCards
import Derived.Test.YtkleenllkjodoaaGreatDoorTie
import Derived.Deep.DeepHandedRow
import Derived.Lib.LaidTab
import Derived.Stop.LaidErr
import Derived.Lay
import Derived.Test.YtkleenllkjodoaaGreatDoorPk06
set_option linter.unusedVariables false
set_option linter.unusedSimpArgs false
set_option linter.unusedSectionVars false
namespace Go.Proofs.YtkleenllkjodoaaGreatDoor
open Go Go.SX
theorem nm_le (n : Nat) : nm 99 n ≤ nm 108 n := List.cons_le_cons_iff.2 (.inl (by decide))
theorem namesJ (room : Int) (n : Nat) (s : List UInt8) (lg : Option (List UInt8 × Nat)) : namesD (dJ room n s lg) = nm 99 n :: (if lg.isSome then [nm 108 n] else []) := by
  unfold namesD srtS
  cases lg with
  | none => exact List.mergeSort_of_pairwise (by simp [dJ])
  | some v => exact List.mergeSort_of_pairwise (by simpa [dJ] using nm_le n)
theorem goodJ {room : Int} {n : Nat} {s : List UInt8} {lg : Option (List UInt8 × Nat)} (hn : n < 100) : ∀ x ∈ namesD (dJ room n s lg), goodN x := by
  intro x hx
  rw [namesJ] at hx
  rcases List.mem_cons.1 hx with rfl | hx
  · exact .inl ⟨n, hn, rfl⟩
  · split at hx
    · rw [List.mem_singleton.1 hx]; exact .inr (.inl ⟨n, hn, rfl⟩)
    · cases hx
theorem latJ {room : Int} {n : Nat} {s : List UInt8} {lg : Option (List UInt8 × Nat)} (hn : n < 100) : latN (namesD (dJ room n s lg)) = n := by
  rw [namesJ]
  have h1 : latM (-1) (nm 99 n) = n := by unfold latM; rw [numOf_nm hn]; dsimp only; omega
  unfold latN
  rw [List.foldl_cons, h1]
  cases lg with
  | none => rfl
  | some v =>
    show latM n (nm 108 n) = n
    unfold latM nm
    rw [numOf_ne (by decide)]
theorem oldJ_nil {room : Int} {n : Nat} {s : List UInt8} {lg : Option (List UInt8 × Nat)} (hn : n < 100) : opO (dJ room n s lg) = [] := by
  unfold opO
  rw [latJ hn, namesJ]
  have h1 : isOld n (nm 99 n) = false := by
    unfold isOld
    rw [numOf_nm hn]
    have : numOf 108 (nm 99 n) = none := numOf_ne (by decide)
    rw [this, decide_eq_false (nm_t n)]
    simp
  have h2 : isOld n (nm 108 n) = false := by
    unfold isOld
    have : numOf 99 (nm 108 n) = none := numOf_ne (by decide)
    rw [numOf_nm hn, this, decide_eq_false (nm_t' n)]
    simp
  unfold latO
  cases lg with
  | none => simp [h1]
  | some v => simp [h1, h2]
theorem lkJc (room : Int) (n : Nat) (s : List UInt8) (lg : Option (List UInt8 × Nat)) : lkL (dJ room n s lg).fs (nm 99 n) = some (stP s, (stP s).length) := by
  unfold dJ; dsimp only; rw [lkL_cons, if_pos rfl]
theorem lkJl (room : Int) (n : Nat) (s : List UInt8) (lg : Option (List UInt8 × Nat)) : lkL (dJ room n s lg).fs (nm 108 n) = lg := by
  unfold dJ; dsimp only; rw [lkL_cons, if_neg (nm_ne n n)]
  cases lg with
  | none => rfl
  | some v => rw [lkL_cons, if_pos rfl]
theorem putJl (room : Int) (n : Nat) (s : List UInt8) (lg : Option (List UInt8 × Nat)) (v : List UInt8 × Nat) : putL (dJ room n s lg).fs (nm 108 n) v = (dJ room n s (some v)).fs := by
  unfold dJ; dsimp only; rw [putL_cons_ne _ _ _ _ _ (nm_ne n n)]
  cases lg with
  | none => rfl
  | some w => rw [putL_cons_eq _ _ _ _ (by simp)]
theorem fileJ (room : Int) (n : Nat) (s : List UInt8) (lg : Option (List UInt8 × Nat)) : fileD (dJ room n s lg) (nm 108 n) = (lgB lg, lgF lg) := by unfold fileD; rw [lkJl]; rfl
theorem fmJ (room : Int) (n : Nat) (s b : List UInt8) (f : Nat) : fmD (dJ room n s (some (b, f))) (nm 108 n) = dJ room n s (some (b, b.length)) := by
  unfold fmD
  rw [fileJ, putJl]; rfl
def okRc (R : List (List UInt8)) : Prop := ∀ x ∈ R, x.length ≤ 4096 ∧ x.length ≠ 0
theorem logF_frs {R : List (List UInt8)} (h : okRc R) : logF (frs R) = R := by
  have := logF_fr (r := []) h
  rw [List.append_nil, logF_no (fun h => nxE_nil h.1), List.append_nil] at this
  exact this
theorem open_J {room : Int} {n : Nat} {s : List UInt8} {R : List (List UInt8)} {lg : Option (List UInt8 × Nat)} (hn : n < 100) (hR : okRc R) (hl : (lg = none ∧ R = []) ∨ ∃ f, f ≤ (frs R).length ∧ lg = some (frs R, f)) :
    opnE (dJ room n s lg) = 0 ∧ opnS (dJ room n s lg) = dJ room n s (lg.map fun _ => (frs R, (frs R).length)) ∧ opN (dJ room n s lg) = n ∧ opB (dJ room n s lg) = some s ∧ opR (dJ room n s lg) = R := by
  have hN : opN (dJ room n s lg) = n := by unfold opN; rw [latJ hn]; rfl
  have hdn : ¬ (dJ room n s lg).down = true := by show ¬ (false = true); decide
  have hB : opB (dJ room n s lg) = some s := by
    unfold opB
    rw [if_neg (by rw [latJ hn]; omega), hN]
    unfold rdB
    rw [if_neg hdn, lkJc]
    exact unP_st s
  have hD : opD (dJ room n s lg) = opL (dJ room n s lg) := by unfold opD; rw [if_neg (fun h => h.2 (oldJ_nil hn))]
  have hL : opL (dJ room n s lg) = (0, dJ room n s (lg.map fun _ => (frs R, (frs R).length))) ∧ opR (dJ room n s lg) = R := by
    unfold opL opR
    rw [hN]
    rcases hl with ⟨rfl, rfl⟩ | ⟨f, hf, rfl⟩
    · have he : rdE (dJ room n s none) (nm 108 n) = 6 := by unfold rdE; rw [if_neg hdn, lkJl, if_pos rfl]
      refine ⟨by unfold logD; rw [he, if_pos (by decide)]; rfl, by unfold logR; rw [he, if_pos (.inl (by decide))]⟩
    · have he : rdE (dJ room n s (some (frs R, f))) (nm 108 n) = 0 := by unfold rdE; rw [if_neg hdn, lkJl, if_neg (by simp)]
      have hb : rdB (dJ room n s (some (frs R, f))) (nm 108 n) = frs R := by unfold rdB; rw [if_neg hdn, lkJl]; rfl
      have hlo : loD (dJ room n s (some (frs R, f))) (nm 108 n) = (0, dJ room n s (some (frs R, (frs R).length))) := by
        unfold loD
        have hlen : looseD (dJ room n s (some (frs R, f))) (nm 108 n) = (frs R).length - f := by unfold looseD; rw [fileJ]; rfl
        rw [hlen]
        have hh : hasD (dJ room n s (some (frs R, f))) (nm 108 n) := by unfold hasD; rw [lkJl]; simp
        split
        · rw [fmE_live (dJ_live _ _ _ _) hh, fmS_live (dJ_live _ _ _ _) hh, fmJ]
        · have : f = (frs R).length := by omega
          rw [← this]
      have hlg : logD (dJ room n s (some (frs R, f))) (nm 108 n) = (0, dJ room n s (some (frs R, (frs R).length))) := by
        unfold logD
        rw [he, if_neg (by decide), hb, logF_frs hR, ← frs_len, if_neg (by omega), hlo]
      refine ⟨hlg, ?_⟩
      unfold logR
      rw [he, hlg, if_neg (by simp), hb, logF_frs hR]
  refine ⟨?_, ?_, hN, hB, hL.2⟩
  · unfold opnE; rw [if_neg hdn, if_neg (by rw [hB]; simp), hD, hL.1]
  · unfold opnS; rw [if_neg hdn, if_neg (by rw [hB]; simp), hD, hL.1]
theorem put_J {room : Int} {n k : Nat} {s : List UInt8} {lg : Option (List UInt8 × Nat)} {rs : List (List UInt8)} (h1 : ptC rs = 0) (h2 : rs ≠ []) :
    (room < ((stP s).length + (lgB lg).length : Nat) + ((frs rs).length : Nat) → ptE ⟨dJ room n s lg, n, k, false⟩ rs = 8 ∧ ptS ⟨dJ room n s lg, n, k, false⟩ rs = ⟨dJ room n s lg, n, k, false⟩) ∧
    (¬ room < ((stP s).length + (lgB lg).length : Nat) + ((frs rs).length : Nat) → ptE ⟨dJ room n s lg, n, k, false⟩ rs = 0 ∧ ptS ⟨dJ room n s lg, n, k, false⟩ rs = ⟨dJ room n s (some (lgB lg ++ frs rs, lgF lg)), n, k + rs.length, false⟩) := by
  have hw := wr_live (dJ_live room n s lg) (frs rs)
  rw [dJ_used] at hw
  have hr : (dJ room n s lg).room = room := rfl
  rw [hr] at hw
  refine ⟨fun h => ?_, fun h => ?_⟩
  · rw [if_pos h] at hw
    refine ⟨?_, ?_⟩
    · unfold ptE; dsimp only; rw [if_neg (by decide), h1, if_neg (by decide), if_neg h2, hw]
    · unfold ptS; dsimp only; rw [if_neg (by decide), h1, if_neg (by decide), if_neg h2, hw]
      have : wrS (dJ room n s lg) (nm 108 n) (frs rs) = dJ room n s lg := by unfold wrS; rw [hw, if_neg (by decide), (dJ_live room n s lg).sd]
      rw [this]; rfl
  · rw [if_neg h] at hw
    refine ⟨?_, ?_⟩
    · unfold ptE; dsimp only; rw [if_neg (by decide), h1, if_neg (by decide), if_neg h2, hw]
    · unfold ptS; dsimp only; rw [if_neg (by decide), h1, if_neg (by decide), if_neg h2, hw]
      have : wrS (dJ room n s lg) (nm 108 n) (frs rs) = dJ room n s (some (lgB lg ++ frs rs, lgF lg)) := by
        rw [wrS_live (dJ_live room n s lg) hw]
        unfold wrD
        rw [fileJ, putJl]; rfl
      rw [this]; rfl
theorem put_no {s : JZ} {rs : List (List UInt8)} (hb : s.br = false) (h : ptC rs ≠ 0 ∨ rs = []) : ptE s rs = ptC rs ∧ ptS s rs = s := by
  by_cases hc : ptC rs = 0
  · have hr : rs = [] := by rcases h with h | h; exact absurd hc h; exact h
    subst hr
    refine ⟨?_, ?_⟩
    · unfold ptE; rw [hb, if_neg (by decide), if_neg (by rw [hc]; decide), if_pos rfl, hc]
    · unfold ptS; rw [hb, if_neg (by decide), if_neg (by rw [hc]; decide), if_pos rfl]
  · refine ⟨?_, ?_⟩
    · unfold ptE; rw [hb, if_neg (by decide), if_pos hc]
    · unfold ptS; rw [hb, if_neg (by decide), if_pos hc]
theorem foce_J {room : Int} {n k : Nat} {s b : List UInt8} {f : Nat} (hk : k ≠ 0) : foceE ⟨dJ room n s (some (b, f)), n, k, false⟩ = 0 ∧ foceS ⟨dJ room n s (some (b, f)), n, k, false⟩ = ⟨dJ room n s (some (b, b.length)), n, k, false⟩ := by
  have hh : hasD (dJ room n s (some (b, f))) (nm 108 n) := by unfold hasD; rw [lkJl]; simp
  have hE := fmE_live (dJ_live room n s (some (b, f))) hh
  have hS := fmS_live (dJ_live room n s (some (b, f))) hh
  refine ⟨?_, ?_⟩
  · unfold foceE; dsimp only; rw [if_neg (by decide), if_neg hk, hE]
  · unfold foceS; dsimp only; rw [if_neg (by decide), if_neg hk, hE, hS, fmJ]; rfl
theorem fo_0 (room : Int) (s : List UInt8) : foE (D0 room) s = (if room < (stP s).length then 8 else 0) ∧ (¬ room < (stP s).length → foS (D0 room) s = dJ room 0 s none) := by
  have h := lay_0 room s
  refine ⟨by unfold foE; rw [if_pos (show (D0 room).fs.length = 0 from rfl), h.1], fun hf => by unfold foS; rw [if_pos (show (D0 room).fs.length = 0 from rfl), h.2 hf]⟩
end Go.Proofs.YtkleenllkjodoaaGreatDoor
namespace Go.SX
open Go
theorem S.cvj {P : Program} {n : Nat} {ops rest : List Oper} {Q : Post} {f : Env} {L L0 L1 : List HP} {d : Tmp} {ty : TypeId} {pos : String} {af : Array Edge} {M : Nat → Option Obj} {x : Operand} {t e t0 : TypeId} {b m c : Nat} {l : List Value} [h : SlTy P t e] [h2 : IntTy P e .u8] (hx : ev f x = some (.slice (some ⟨b, 0, none⟩) m c)) [hf : FindB b L (cl l t0)] [hp : Pick (pt b (cl l t0)) L L0] [hm : PickM L0 M L1] (hl : l.length = m)
    (hk : ∀ M', leM M M' → SlM M' (some ⟨b, 0, none⟩) m 1 l → opsS P n ops rest Q (upd f d (.slice (some ⟨b, 0, none⟩) m c)) (roM M' :: L1)) :
    opsS P n ops (⟨some d, .convert t t x, ty, pos, af, none⟩ :: rest) Q f L :=
  S.cvm hx hl fun M1 h1 => opsS_join fun M' hl1 hl2 => hk M' hl1 (h1.mono hl2)
end Go.SX
namespace Go.Proofs.YtkleenllkjodoaaGreatDoor
open Go Go.SX
attribute [local irreducible] swp opsS thenS blockS retS CallsS St Ent YieldS anyS drawS
set_option maxHeartbeats 4000000 in
theorem awakeJ_spec (M : Nat → Option Obj) (L : List HP) (hE : ErrM M) (hT : NibM M) : CallsS Tryz.prog 9 [] (roM M :: L) (fun r L' => r = .bool true ∧ ∃ M', leM M M' ∧ L' = roM M' :: L) := by
  refine CallsS.of_body Tryz.func9 rfl rfl rfl ?_
  refine Q.r ?_; (repeat (intro b1; refine Q.r ?_))
  refine S.cr rfl (DNew_spec 1000 _ (by decide)) ?_
  rintro _ _ ⟨p, rfl, rfl⟩
  refine Q.r ?_; (repeat (intro b1; refine Q.r ?_))
  refine S.cvj (t0 := 5) rfl rfl (fun M1 hl1 hs1 => ?_)
  refine Q.r ?_; (repeat (intro b1; refine Q.r ?_))
  have hT1 := hT.mono hl1
  have hst := stP_len [115]
  have hl0 := fo_0 1000 [115]
  have hfits : ¬ (1000 : Int) < ((stP [115]).length : Nat) := by simp at hst; omega
  have hfo : foE (D0 1000) [115] = 0 := by rw [hl0.1, if_neg hfits]
  have hfs : foS (D0 1000) [115] = dJ 1000 0 [115] none := hl0.2 hfits
  refine S.ckm p rfl (Format_spec p (D0 1000) (some ⟨b1, 0, none⟩) 1 [115] M1 _ hs1 hT1 (Nat.le_refl _) (by decide)) ?_
  rintro _ _ ⟨rfl, M2, hl2, rfl⟩
  rw [hfo, hfs]
  refine Q.r ?_; (repeat (intro b1; refine Q.r ?_))
  have hT2 := hT1.mono hl2
  have hE2 := (hE.mono hl1).mono hl2
  refine S.ckm p rfl (Open_spec p _ M2 _ hE2 hT2 (goodJ (by decide))) ?_
  obtain ⟨o1, o2, o3, o4, o5⟩ := open_J (room := 1000) (n := 0) (s := [115]) (R := []) (lg := none) (by decide) (fun x hx => by cases hx) (.inl ⟨rfl, rfl⟩)
  rintro _ _ ⟨M3, hl3, ⟨h, _⟩ | ⟨_, q, sv, a, c, vs, rfl, _, _, _, hvs, _, _, _, rfl⟩⟩
  · exact absurd o1 h
  rw [o5] at hvs
  have hvl : vs.length = 0 := by rw [← List.length_map (f := YB.bs), hvs]; rfl
  rw [o2, o3, hvl]
  refine Q.r ?_; (repeat (intro b1; refine Q.r ?_))
  refine S.cvj (t0 := 5) rfl rfl (fun M4 hl4 hs4 => ?_)
  generalize b1 = ba at *
  refine Q.r ?_; (repeat (intro b1; refine Q.r ?_))
  refine S.cvj (t0 := 5) rfl rfl (fun M5 hl5 hs5 => ?_)
  generalize b1 = bb at *
  refine Q.r ?_; (repeat (intro b1; refine Q.r ?_))
  refine opsS_ent (L' := pt b1 (cl [.slice (some ⟨ba, 0, none⟩) 1 1, .slice (some ⟨bb, 0, none⟩) 1 1] 31) :: roM M5 :: jnP q p 0 0 false :: diskH p (dJ 1000 0 [115] none) :: L) (by repeat (first | exact Ent.refl _ | exact Ent.nil | refine Ent.pick ?_ | refine Ent.nilS ?_ | refine Ent.nilM ?_ | refine Ent.drop ?_)) ?_
  refine opsS_absR b1 (t := 31) (l := [.slice (some ⟨ba, 0, none⟩) 1 1, .slice (some ⟨bb, 0, none⟩) 1 1]) (m := 2) (cs := [.slice (some ⟨ba, 0, none⟩) 1 1, .slice (some ⟨bb, 0, none⟩) 1 1]) (Nat.le_refl _) rfl (fun M6 hl6 hs6 => ?_)
  refine opsS_ent (L' := jnP q p 0 0 false :: diskH p (dJ 1000 0 [115] none) :: roM M6 :: L) (by repeat (first | exact Ent.refl _ | exact Ent.nil | refine Ent.pick ?_ | refine Ent.nilS ?_ | refine Ent.nilM ?_ | refine Ent.drop ?_)) ?_
  have hT6 := (((hT2.mono hl3).mono hl4).mono hl5).mono hl6
  have hR2 : ([⟨some ⟨ba, 0, none⟩, 1, [97]⟩, ⟨some ⟨bb, 0, none⟩, 1, [98]⟩] : List YB).map YB.bs = [[97], [98]] := rfl
  have hok2 : okYs M6 [⟨some ⟨ba, 0, none⟩, 1, [97]⟩, ⟨some ⟨bb, 0, none⟩, 1, [98]⟩] := fun v hv => by
    rcases List.mem_cons.1 hv with rfl | hv
    · exact ⟨((hs4.mono hl5).mono hl6 : SlM M6 (some ⟨ba, 0, none⟩) 1 1 [B 97]), Nat.le_refl _⟩
    · rw [List.mem_singleton.1 hv]
      exact ⟨(hs5.mono hl6 : SlM M6 (some ⟨bb, 0, none⟩) 1 1 [B 98]), Nat.le_refl _⟩
  refine S.cr rfl (JPut_spec p q ⟨dJ 1000 0 [115] none, 0, 0, false⟩ (some ⟨b1, 0, none⟩) 2 [⟨some ⟨ba, 0, none⟩, 1, [97]⟩, ⟨some ⟨bb, 0, none⟩, 1, [98]⟩] M6 L (by decide) (by decide) (by show 1 ≤ 15; decide) hs6 hok2 hT6 (by simp) (fun v hv => by rcases List.mem_cons.1 hv with rfl | hv; exact Nat.le_of_ble_eq_true rfl; rw [List.mem_singleton.1 hv]; exact Nat.le_of_ble_eq_true rfl)) ?_
  rw [hR2]
  have hfl : (frs [[97], [98]]).length = 14 := by rw [frs_len]; rfl
  have hlg0 : (lgB none).length = 0 := rfl
  obtain ⟨hp1, hp2⟩ := (put_J (room := 1000) (n := 0) (k := 0) (s := [115]) (lg := none) (rs := [[97], [98]]) (by decide) (by simp)).2 (by rw [hfl, hlg0]; simp at hst; omega)
  rintro _ _ ⟨rfl, M7, hl7, rfl⟩
  rw [hp1, hp2]
  refine opsS_ent (L' := jnP q p 0 2 false :: diskH p (dJ 1000 0 [115] (some (frs [[97], [98]], 0))) :: roM M7 :: L) (Ent.refl _) ?_
  have hT7 := hT6.mono hl7
  refine Q.r ?_; (repeat (intro b1; refine Q.r ?_))
  refine S.cr rfl (Force_spec p q ⟨dJ 1000 0 [115] (some (frs [[97], [98]], 0)), 0, 2, false⟩ M7 L (by decide)) ?_
  obtain ⟨hf1, hf2⟩ := foce_J (room := 1000) (n := 0) (k := 2) (s := [115]) (b := frs [[97], [98]]) (f := 0) (by decide)
  rintro _ _ ⟨rfl, M8, hl8, rfl⟩
  rw [hf1, hf2]
  refine opsS_ent (L' := jnP q p 0 2 false :: diskH p (dJ 1000 0 [115] (some (frs [[97], [98]], (frs [[97], [98]]).length))) :: roM M8 :: L) (Ent.refl _) ?_
  refine Q.r ?_; (repeat (intro b1; refine Q.r ?_))
  refine S.cvj (t0 := 5) rfl rfl (fun M9 hl9 hs9 => ?_)
  generalize b1 = bc at *
  refine Q.r ?_; (repeat (intro b1; refine Q.r ?_))
  refine opsS_ent (L' := pt b1 (cl [.slice (some ⟨bc, 0, none⟩) 1 1] 31) :: roM M9 :: jnP q p 0 2 false :: diskH p (dJ 1000 0 [115] (some (frs [[97], [98]], (frs [[97], [98]]).length))) :: L) (by repeat (first | exact Ent.refl _ | exact Ent.nil | refine Ent.pick ?_ | refine Ent.nilS ?_ | refine Ent.nilM ?_ | refine Ent.drop ?_)) ?_
  refine opsS_absR b1 (t := 31) (l := [.slice (some ⟨bc, 0, none⟩) 1 1]) (m := 1) (cs := [.slice (some ⟨bc, 0, none⟩) 1 1]) (Nat.le_refl _) rfl (fun M10 hl10 hs10 => ?_)
  refine opsS_ent (L' := jnP q p 0 2 false :: diskH p (dJ 1000 0 [115] (some (frs [[97], [98]], (frs [[97], [98]]).length))) :: roM M10 :: L) (by repeat (first | exact Ent.refl _ | exact Ent.nil | refine Ent.pick ?_ | refine Ent.nilS ?_ | refine Ent.nilM ?_ | refine Ent.drop ?_)) ?_
  have hT10 := ((hT7.mono hl8).mono hl9).mono hl10
  have hR3 : ([⟨some ⟨bc, 0, none⟩, 1, [99]⟩] : List YB).map YB.bs = [[99]] := rfl
  have hok3 : okYs M10 [⟨some ⟨bc, 0, none⟩, 1, [99]⟩] := fun v hv => by
    rw [List.mem_singleton.1 hv]
    exact ⟨(hs9.mono hl10 : SlM M10 (some ⟨bc, 0, none⟩) 1 1 [B 99]), Nat.le_refl _⟩
  refine S.cr rfl (JPut_spec p q ⟨dJ 1000 0 [115] (some (frs [[97], [98]], (frs [[97], [98]]).length)), 0, 2, false⟩ (some ⟨b1, 0, none⟩) 1 [⟨some ⟨bc, 0, none⟩, 1, [99]⟩] M10 L (by decide) (by decide) (by show 2 ≤ 15; decide) hs10 hok3 hT10 (by simp) (fun v hv => by rw [List.mem_singleton.1 hv]; exact Nat.le_of_ble_eq_true rfl)) ?_
  rw [hR3]
  have hfl3 : (frs [[99]]).length = 7 := by rw [frs_len]; rfl
  have hlg3 : (lgB (some (frs [[97], [98]], (frs [[97], [98]]).length))).length = 14 := hfl
  obtain ⟨hq1, hq2⟩ := (put_J (room := 1000) (n := 0) (k := 2) (s := [115]) (lg := some (frs [[97], [98]], (frs [[97], [98]]).length)) (rs := [[99]]) (by decide) (by simp)).2 (by rw [hfl3, hlg3]; simp at hst; omega)
  rintro _ _ ⟨rfl, M11, hl11, rfl⟩
  rw [hq1, hq2]
  refine opsS_ent (L' := jnP q p 0 3 false :: diskH p (dJ 1000 0 [115] (some (frs [[97], [98]] ++ frs [[99]], (frs [[97], [98]]).length))) :: roM M11 :: L) (Ent.refl _) ?_
  refine Q.r ?_; (repeat (intro b1; refine Q.r ?_))
  refine S.ckm p rfl (Names_spec p _ M11 _) ?_
  rintro _ _ ⟨a4, c4, M12, rfl, hs12, hc12, hl12, rfl⟩
  rw [namesJ] at hs12
  rw [show (dJ 1000 0 [115] (some (frs [[97], [98]] ++ frs [[99]], (frs [[97], [98]]).length))).fs.length = 2 from rfl] at hs12 hc12 ⊢
  refine Q.r ?_; (repeat (intro b1; refine Q.r ?_))
  refine S.ckm p rfl (Crash_spec p _ none 0 [] M12 _ SlM.nil (by decide)) ?_
  rintro _ _ ⟨kf, M13, rfl, hl13, hkf1, hkf2, rfl⟩
  have hkf := hkf2 rfl
  have hcr : crD (dJ 1000 0 [115] (some (frs [[97], [98]] ++ frs [[99]], (frs [[97], [98]]).length))) kf = dJ 1000 0 [115] (some (frs [[97], [98]], (frs [[97], [98]]).length)) := by
    unfold crD dJ
    simp [hkf]
  rw [hcr]
  refine Q.r ?_; (repeat (intro b1; refine Q.r ?_))
  have hT13 := ((hT10.mono hl11).mono hl12).mono hl13
  have hE13 := ((((((((((hE2.mono hl3).mono hl4).mono hl5).mono hl6).mono hl7).mono hl8).mono hl9).mono hl10).mono hl11).mono hl12).mono hl13
  refine S.ckm p rfl (Open_spec p _ M13 _ hE13 hT13 (goodJ (by decide))) ?_
  obtain ⟨p1, p2, p3, p4, p5⟩ := open_J (room := 1000) (n := 0) (s := [115]) (R := [[97], [98]]) (lg := some (frs [[97], [98]], (frs [[97], [98]]).length)) (by decide) (fun x hx => by rcases List.mem_cons.1 hx with rfl | hx; exact ⟨by decide, by decide⟩; rw [List.mem_singleton.1 hx]; exact ⟨by decide, by decide⟩) (.inr ⟨_, Nat.le_refl _, rfl⟩)
  rintro _ _ ⟨M14, hl14, ⟨h, _⟩ | ⟨_, q2, sv2, a5, c5, us, rfl, hsv, hsvo, hsvc, hus, huo, hua, huc, rfl⟩⟩
  · exact absurd p1 h
  rw [p5] at hus
  rw [p4] at hsv
  rw [p2, p3]
  have hs14 : SlM M14 a4 2 1 ([[99, 48], [108, 48]].flatMap sC) := by
    rw [flat_sC]
    have hn1 : nm 99 0 = [99, 48] := by unfold nm; rw [decD_lo (by decide)]; rfl
    have hn2 : nm 108 0 = [108, 48] := by unfold nm; rw [decD_lo (by decide)]; rfl
    rw [hn1, hn2] at hs12
    exact (hs12.mono hl13).mono hl14
  obtain ⟨b4, o4, rfl, hr0⟩ := SlM.cm (g := sC) (k := 0) (fun _ => rfl) hs14 rfl rfl
  obtain ⟨b4', o4', e4, hr1⟩ := SlM.cm (g := sC) (k := 1) (fun _ => rfl) hs14 rfl rfl
  cases e4
  have hul : us.length = 2 := by rw [← List.length_map (f := YB.bs), hus]; rfl
  obtain ⟨u0, u1, rfl⟩ : ∃ u0 u1, us = [u0, u1] := by
    match us, hul with
    | [u0, u1], _ => exact ⟨u0, u1, rfl⟩
  simp only [List.map_cons, List.map_nil, List.cons.injEq, and_true] at hus
  obtain ⟨hu0, hu1⟩ := hus
  have hu1o := (huo u1 (by simp)).1
  obtain ⟨b5, o5, rfl, hr5⟩ := SlM.cm (g := YB.cells) (k := 1) (fun _ => rfl) hua rfl rfl
  obtain ⟨sa, sc, sbs⟩ := sv2
  have hsv2 : sbs = [115] := Option.some.inj hsv
  subst hsv2
  obtain ⟨ua, uc, ubs⟩ := u1
  dsimp only at hu1
  subst hu1
  refine Q.r ?_; (repeat (intro b1; refine Q.r ?_))
  refine S.y (by refine Y.b2s (bs := [115]) (by rfl) ?_; exact hsvo.rd) ?_
  refine Q.r ?_; (repeat (intro b1; refine Q.r ?_))
  refine S.y (by refine Y.b2s (bs := [98]) (by rfl) ?_; exact okYM.rd hu1o) ?_
  refine Q.r ?_; (repeat (intro b1; refine Q.r ?_))
  refine N.r1 (RV.tmp rfl RV.nil) (L' := roM M14 :: L) (by repeat (first | exact Ent.refl _ | exact Ent.nil | refine Ent.pick ?_ | refine Ent.nilS ?_ | refine Ent.nilM ?_ | refine Ent.drop ?_)) ⟨rfl, M14, ?_, rfl⟩
  exact hl1.trans (hl2.trans (hl3.trans (hl4.trans (hl5.trans (hl6.trans (hl7.trans (hl8.trans (hl9.trans (hl10.trans (hl11.trans (hl12.trans (hl13.trans hl14))))))))))))
end Go.Proofs.YtkleenllkjodoaaGreatDoor
namespace Go.SX
open Go Go.ChangeShapes Go.WideShapes Go.RowKit
section
variable {H : Type} {enc : TypeId × Value → H} {P : Program} {W : World}
def Rd (enc : TypeId × Value → H) (P : Program) (W : World) (t : TypeId) (cs : List Value) : Prop := ∃ n x, DataW.trod enc P W 0 (fun _ => true) true n t cs = some x
theorem cells_of {w : World} {base : Nat} {a : Addr} {n : Nat} {cs : List Value} (h : w.cells? base a n = some cs) : cs.length = n ∧ ∀ j, j < n → w.cell? (a.add j) = cs[j]? := by
  unfold World.cells? at h
  split at h
  · exact ⟨by simpa using mapM_some_length h, fun j hj => by simpa using mapM_some_get h j j (by simp [hj])⟩
  · cases h
theorem cell_block {w : World} {a : Addr} {v : Value} (h : w.cell? a = some v) : ∃ l t fz, w.heap[a.block]? = some (.cells l t fz) ∧ l[a.off]? = some v ∧ a.spot = none := by
  unfold World.cell? at h
  split at h
  · rename_i c t fz hb
    split at h
    · cases h
    · rename_i hs
      refine ⟨c, t, fz, hb, h, by simpa using hs⟩
  · cases h
theorem add_at (x y n : Nat) : (⟨x, y, none⟩ : Addr).add n = ⟨x, y + n, none⟩ := by unfold Addr.add; split <;> simp_all
theorem flat_at {sz : Nat} : ∀ {rows : List (List Value)} {j : Nat} {v : Value}, (∀ r ∈ rows, r.length = sz) → rows.flatten[j]? = some v → ∃ k r i, rows[k]? = some r ∧ r[i]? = some v ∧ j = k * sz + i
  | [], j, v, _, h => by simp at h
  | r :: rows, j, v, hr, h => by
    have h0 := hr r (by simp)
    rw [List.flatten_cons] at h
    by_cases hj : j < r.length
    · rw [List.getElem?_append_left hj] at h
      exact ⟨0, r, j, rfl, h, by simp⟩
    · rw [List.getElem?_append_right (by omega)] at h
      obtain ⟨k, r', i, h1, h2, h3⟩ := flat_at (fun x hx => hr x (by simp [hx])) h
      exact ⟨k + 1, r', i, by simpa using h1, h2, by rw [Nat.succ_mul]; omega⟩
theorem Rd.slice {t e : TypeId} {sz : Nat} {cs : List Value} (h : Rd enc P W t cs) (ht : P.underlying t = some (.slice e)) (hs : P.cellsOf e = sz) (h0 : 0 < sz) :
    ∃ (a : Option Addr) (c : Nat) (rows : List (List Value)), cs = [.slice a rows.length c] ∧ rows.length ≤ c ∧ c ≤ maxLen ∧ SlM (all0 W) a rows.length sz rows.flatten ∧ ∀ r ∈ rows, r.length = sz ∧ Rd enc P W e r := by
  obtain ⟨n, x, h⟩ := h
  rcases DataW.trod_slice ht h with ⟨rfl, _⟩ | ⟨a, len, cap, elems, rest, n, rfl, rfl, _, _, hlc, hcm, hel, hat, _⟩
  · exact ⟨none, 0, [], rfl, Nat.le_refl _, Nat.zero_le _, SlM.nil, by simp⟩
  · simp only [hs] at hat
    have hrow : ∀ i, i < len → ∃ r y, W.cells? 0 (a.add (i * sz)) sz = some r ∧ DataW.trod enc P W 0 (fun _ => true) true n e r = some y := fun i hi => by
      have := hat i hi
      have hi' : i < elems.length := by omega
      rw [List.getElem?_eq_getElem hi'] at this
      obtain ⟨r, h1, h2⟩ := Option.bind_eq_some_iff.1 this
      exact ⟨r, _, h1, h2⟩
    let rows := (List.range len).map fun i => (W.cells? 0 (a.add (i * sz)) sz).getD []
    have hrl : rows.length = len := by simp [rows]
    have hri : ∀ i r, rows[i]? = some r → i < len ∧ W.cells? 0 (a.add (i * sz)) sz = some r := fun i r hr => by
      have hi : i < len := by have := (List.getElem?_eq_some_iff.1 hr).1; omega
      obtain ⟨r', y, h1, _⟩ := hrow i hi
      refine ⟨hi, ?_⟩
      simp only [rows, List.getElem?_map, List.getElem?_range hi, Option.map_some, Option.some.injEq, h1, Option.getD_some] at hr
      rw [← hr]; exact h1
    have hmem : ∀ r ∈ rows, r.length = sz ∧ Rd enc P W e r := fun r hr => by
      obtain ⟨i, hi, rfl⟩ := List.getElem_of_mem hr
      obtain ⟨h1, h2⟩ := hri i _ (List.getElem?_eq_getElem hi)
      obtain ⟨r', y, h3, h4⟩ := hrow i h1
      rw [h2] at h3; cases h3
      exact ⟨(cells_of h2).1, n, y, h4⟩
    refine ⟨some a, cap, rows, by rw [hrl], by omega, hcm, ⟨?_, ?_⟩, hmem⟩
    · have : ∀ l : List (List Value), (∀ r ∈ l, r.length = sz) → l.flatten.length = l.length * sz := by
        intro l
        induction l with
        | nil => simp
        | cons r l ih => intro h; rw [List.flatten_cons, List.length_append, h r (by simp), ih (fun x hx => h x (by simp [hx])), List.length_cons, Nat.succ_mul]; omega
      exact this rows fun r hr => (hmem r hr).1
    · by_cases hl0 : len = 0
      · exact .inl (by omega)
      · refine .inr ?_
        obtain ⟨r0, y0, h1, _⟩ := hrow 0 (by omega)
        have h2 := (cells_of h1).2 0 h0
        have hr0 : 0 < r0.length := by rw [(cells_of h1).1]; exact h0
        rw [List.getElem?_eq_getElem hr0] at h2
        obtain ⟨l, tt, fz, hb, hc, hsp⟩ := cell_block h2
        have ea : (a.add (0 * sz)).add 0 = a := by simp [Addr.add]
        rw [ea] at hb hc hsp
        have eA : a = ⟨a.block, a.off, none⟩ := by cases a; simp_all
        refine ⟨a.block, a.off, l, tt, fz, by rw [← eA], hb, fun j v hv => ?_⟩
        obtain ⟨k, r, i, h3, h4, rfl⟩ := flat_at (fun r hr => (hmem r hr).1) hv
        obtain ⟨h5, h6⟩ := hri k r h3
        have hi : i < sz := by rw [← (cells_of h6).1]; exact (List.getElem?_eq_some_iff.1 h4).1
        have h7 := (cells_of h6).2 i hi
        rw [h4] at h7
        have e2 : (a.add (k * sz)).add i = ⟨a.block, a.off + (k * sz + i), none⟩ := by
          rw [eA, add_at, add_at, Nat.add_assoc]
        rw [e2] at h7
        simp only [World.cell?, hb] at h7
        simpa using h7
theorem Rd.list {t e : TypeId} {sz : Nat} {cs : List Value} {α : Type} {g : α → List Value} {Q : α → Prop} (he : ∀ r, Rd enc P W e r → ∃ x, r = g x ∧ Q x) (h : Rd enc P W t cs) (ht : P.underlying t = some (.slice e)) (hs : P.cellsOf e = sz) (h0 : 0 < sz) :
    ∃ (a : Option Addr) (c : Nat) (xs : List α), cs = [.slice a xs.length c] ∧ xs.length ≤ c ∧ c ≤ maxLen ∧ SlM (all0 W) a xs.length sz (xs.flatMap g) ∧ ∀ x ∈ xs, Q x := by
  obtain ⟨a, c, rows, h1, h2, h3, h4, h5⟩ := h.slice ht hs h0
  have key : ∀ rows : List (List Value), (∀ r ∈ rows, r.length = sz ∧ Rd enc P W e r) → ∃ xs : List α, rows = xs.map g ∧ ∀ x ∈ xs, Q x := by
    intro rows
    induction rows with
    | nil => exact fun _ => ⟨[], rfl, by simp⟩
    | cons r rows ih =>
      intro h
      obtain ⟨xs, e1, e2⟩ := ih fun x hx => h x (by simp [hx])
      obtain ⟨x, e3, e4⟩ := he r (h r (by simp)).2
      refine ⟨x :: xs, by rw [List.map_cons, ← e1, ← e3], fun y hy => ?_⟩
      rcases List.mem_cons.1 hy with rfl | hy
      · exact e4
      · exact e2 y hy
  obtain ⟨xs, e1, e2⟩ := key rows h5
  have el : rows.length = xs.length := by rw [e1, List.length_map]
  rw [el] at h1 h2 h4
  refine ⟨a, c, xs, h1, h2, h3, ?_, e2⟩
  rw [List.flatMap_def, ← e1]; exact h4
theorem Rd.int {t : TypeId} {k : IntKind} {cs : List Value} (h : Rd enc P W t cs) (ht : P.underlying t = some (.int k)) : ∃ n, cs = [.int k n] ∧ (Lit.int k n).wf = true := by
  obtain ⟨n, x, h⟩ := h
  obtain ⟨v, h1, _, h2⟩ := DataW.trod_int ht h
  exact ⟨v, h1, h2⟩
theorem Rd.bool {t : TypeId} {cs : List Value} (h : Rd enc P W t cs) (ht : P.underlying t = some .bool) : ∃ b, cs = [.bool b] := by
  obtain ⟨n, x, h⟩ := h
  obtain ⟨v, h1, _⟩ := DataW.trod_bool ht h
  exact ⟨v, h1⟩
theorem Rd.fields {t : TypeId} {fs : Array Field} {cs : List Value} (h : Rd enc P W t cs) (ht : P.underlying t = some (.struct fs)) : cs.length = P.cellsOf t ∧ ∀ (i : Nat) (f : Field), fs[i]? = some f → Rd enc P W f.type ((cs.drop f.offset).take (P.cellsOf f.type)) := by
  obtain ⟨n, x, h⟩ := h
  obtain ⟨xs, m, _, _, h1, h2, h3⟩ := DataW.trod_struct ht h
  refine ⟨h1, fun i f hf => ?_⟩
  have := h3 i f hf
  have hi : i < xs.length := by rw [h2]; exact (Array.getElem?_eq_some_iff.1 hf).1
  rw [List.getElem?_eq_getElem hi] at this
  exact ⟨m, _, this⟩
theorem Rd.byte {t : TypeId} {cs : List Value} (h : Rd enc P W t cs) (ht : P.underlying t = some (.int .u8)) : ∃ x, cs = [B x] ∧ True := by
  obtain ⟨n, rfl, h1⟩ := h.int ht
  have h2 : 0 ≤ n ∧ n ≤ 255 := bounds_u8 h1
  refine ⟨UInt8.ofNat n.toNat, ?_, trivial⟩
  have : (UInt8.ofNat n.toNat).toNat = n.toNat := by simp; omega
  simp only [B, this]
  rw [Int.toNat_of_nonneg h2.1]
theorem Rd.bytes {t e : TypeId} {cs : List Value} (h : Rd enc P W t cs) (ht : P.underlying t = some (.slice e)) (he : P.underlying e = some (.int .u8)) (hs : P.cellsOf e = 1) :
    ∃ (a : Option Addr) (c : Nat) (bs : List UInt8), cs = [.slice a bs.length c] ∧ bs.length ≤ c ∧ c ≤ maxLen ∧ SlM (all0 W) a bs.length 1 (bs.map B) := by
  obtain ⟨a, c, xs, h1, h2, h3, h4, _⟩ := Rd.list (g := fun x => [B x]) (fun r hr => hr.byte he) h ht hs (by omega)
  refine ⟨a, c, xs, h1, h2, h3, ?_⟩
  have key : ∀ xs : List UInt8, xs.flatMap (fun x => [B x]) = xs.map B := fun xs => by induction xs with
    | nil => rfl
    | cons x xs ih => rw [List.flatMap_cons, ih]; rfl
  rwa [key] at h4
theorem args_again (K : Kids P (· < P.types.size)) (hz : ∀ t e, t < P.types.size → P.underlying t = some (.slice e) → 0 < P.cellsOf e) {W' : World} {ts : List TypeId} {vs : List Value} {ds : List (DataW H)} {ps : List MemPlace} (hT : ∀ t ∈ ts, t < P.types.size)
    (h : DataW.TrodAll enc P W 0 (fun _ => true) true ts vs ds ps) (hk : Kept W W') (sp : Nat → Bool) (hs : ∀ p ∈ ps, sp p.block = true) : DataW.TrodAll enc P W' 0 sp true ts vs ds ps :=
  DataW.TrodAll.respare K hz hT (trodAll_kept hk h) hs
theorem trodAll_rd : ∀ {ts : List TypeId} {vs : List Value} {ds : List (DataW H)} {ps : List MemPlace}, DataW.TrodAll enc P W 0 (fun _ => true) true ts vs ds ps → vs.length = ts.length ∧ ds.length = ts.length ∧ ∀ (i : Nat) (t : TypeId) (v : Value), ts[i]? = some t → vs[i]? = some v → Rd enc P W t v.cells.toList
  | [], [], [], _, _ => ⟨rfl, rfl, fun i t v h => by simp at h⟩
  | t :: ts, v :: vs, d :: ds, ps, ⟨p, q, ⟨n, h1⟩, h2, _⟩ => by
    obtain ⟨e1, e2, e3⟩ := trodAll_rd h2
    refine ⟨by simp [e1], by simp [e2], fun i t' v' h h' => ?_⟩
    cases i with
    | zero => simp at h h'; subst h h'; exact ⟨n, _, h1⟩
    | succ i => exact e3 i t' v' (by simpa using h) (by simpa using h')
structure Arg (enc : TypeId × Value → H) (P : Program) (W : World) (t : TypeId) (v : Value) : Prop where
  rd : Rd enc P W t v.cells.toList
  ok : ∃ base, Value.okWide P W .any base t v
theorem Arg.int {t : TypeId} {k : IntKind} {v : Value} (h : Arg enc P W t v) (ht : P.underlying t = some (.int k)) : ∃ n, v = .int k n ∧ (Lit.int k n).wf = true := by
  obtain ⟨r, _, o⟩ := h
  obtain ⟨n, rfl⟩ := okWide_int ht o
  obtain ⟨m, h1, h2⟩ := r.int ht
  simp [Value.cells] at h1
  subst h1
  exact ⟨n, rfl, h2⟩
theorem Arg.bool {t : TypeId} {v : Value} (h : Arg enc P W t v) (ht : P.underlying t = some .bool) : ∃ b, v = .bool b := by
  obtain ⟨r, _, o⟩ := h
  exact okWide_bool ht o
theorem Arg.list {t e : TypeId} {sz : Nat} {v : Value} {α : Type} {g : α → List Value} {Q : α → Prop} (h : Arg enc P W t v) (he : ∀ r, Rd enc P W e r → ∃ x, r = g x ∧ Q x) (ht : P.underlying t = some (.slice e)) (hs : P.cellsOf e = sz) (h0 : 0 < sz) :
    ∃ (a : Option Addr) (c : Nat) (xs : List α), v = .slice a xs.length c ∧ xs.length ≤ c ∧ c ≤ 9223372036854775807 ∧ SlM (all0 W) a xs.length sz (xs.flatMap g) ∧ ∀ x ∈ xs, Q x := by
  obtain ⟨r, _, o⟩ := h
  obtain ⟨a, l, c, rfl⟩ := okWide_slice ht o
  obtain ⟨a', c', xs, h1, h2, h3, h4, h5⟩ := r.list he ht hs h0
  simp [Value.cells] at h1
  obtain ⟨rfl, rfl, rfl⟩ := h1
  exact ⟨_, _, xs, rfl, h2, h3, h4, h5⟩
theorem row_post {f : FuncId} {F : Func} {s : ChangeSpec} {tb : TypeId} {args : Array Value} {ds gs : List (DataW H)} {before : List MemPlace} {handsOn again : Bool} (K : Kids P (· < P.types.size)) (hz : ∀ t e, t < P.types.size → P.underlying t = some (.slice e) → 0 < P.cellsOf e)
    (hT : (F.params.toList.all fun t => decide (t < P.types.size)) = true) (hvs : s.vars = []) (hfn : ∀ ds : List (DataW H), ds.length = F.params.toList.length → s.fn H ds = { results := [.lit (.bool true)], args := ds }) (hrt : F.resultTypes = #[tb]) (htb : P.underlying tb = some .bool)
    {base : Nat} (hval : ∀ (j : Nat) t v, F.params[j]? = some t → args[j]? = some v → Value.okWide P W .any base t v)
    (hW : DataW.Whole enc P F.params.toList s.vars false W args.toList ds gs before)
    (hw : (∀ (i : Nat) (t : TypeId) (v : Value), F.params.toList[i]? = some t → args.toList[i]? = some v → Arg enc P W t v) → args.toList.length = F.params.toList.length → CallsS P f args.toList [roM (all0 W)] (fun v _ => v = .bool true)) :
    Calls P f args W fun e W' => ∃ v, e = .returned v ∧ s.post enc P F false true handsOn again W args v W' := by
  have hW' := hW
  obtain ⟨p, q, hA, hV, rfl, hfz, hnd⟩ := hW
  rw [hvs] at hV
  obtain ⟨rfl, rfl⟩ : gs = [] ∧ q = [] := by
    cases gs with
    | nil => exact ⟨rfl, hV⟩
    | cons g gs => exact hV.elim
  obtain ⟨h1, h2, h3⟩ := trodAll_rd hA
  have hc := (hw (fun i t v e1 e2 => ⟨h3 i t v e1 e2, base, hval i t v (by simpa using e1) (by simpa using e2)⟩) h1).kept
  refine hc.mono fun e W' ⟨he, hk⟩ => ?_
  subst he
  have hf := hfn ds h2
  refine ⟨_, rfl, post_kept (pa := p) (pv := []) hW' (fun b sp hd => ?_) (fun sp hsp => ?_) (fun sp _ => ?_) rfl hk ?_⟩
  · rw [hrt, List.append_nil, hf]
    exact trodAll_cons_mk (shut_bool htb _) trodAll_mk0
  · rw [List.append_nil, hf]
    exact args_again K hz (fun t ht => of_decide_eq_true (List.all_eq_true.1 hT t ht)) hA hk sp (fun x hx => hsp x (by simp [hx]))
  · rw [hvs, List.append_nil, hf]; rfl
  · exact ok_one hrt rfl (okWide_bool_mk htb _)
end
end Go.SX
namespace Go.Proofs.YtkleenllkjodoaaGreatDoor
open Go Go.SX Go.ChangeShapes Go.WideShapes Go.ChangeAt Go.RowKit
abbrev laidL : List (String × DataW Unit) := [("math/bits.deBruijn32tab", Rows.laid_math_bits_deBruijn32tab), ("math/bits.deBruijn64tab", Rows.laid_math_bits_deBruijn64tab), ("internal/strconv.uint64pow10", Rows.laid_internal_strconv_uint64pow10), ("strconv.ErrRange", Rows.laid_strconv_ErrRange), ("strconv.ErrSyntax", Rows.laid_strconv_ErrSyntax), ("armillary/seal.nibble", Rows.laid_armillary_seal_nibble)]
theorem gNib : Tryz.prog.globalNamed "armillary/seal.nibble" = some 0 := by kernel_rfl
theorem gNibT : (Tryz.prog.globals[0]?).map (·.type) = some 125 := by kernel_rfl
theorem gErr : Tryz.prog.globalNamed "strconv.ErrSyntax" = some 3 := by kernel_rfl
theorem gErrT : (Tryz.prog.globals[3]?).map (·.type) = some 130 := by kernel_rfl
theorem starE : "*" ++ "errors.errorString" = "*errors.errorString" := by decide
theorem rowE (u : TypeId) (h : Tryz.prog.typeName? 3 u = some "*errors.errorString") : u = 184 :=
  typeName_ptr_named (nm := "errors.errorString") (by rw [starE]; kernel_rfl) (by kernel_rfl) (by decide) u (by rw [starE]; exact h)
theorem nib_is : (Rows.laid_armillary_seal_nibble : DataW Unit) = Lib.tabData .u32 (nibT.map fun z : Nat => (z : Int)) := by kernel_rfl
theorem heap_var {W : World} {n : String} {g : Nat} {cs : Array Value} (hg : Tryz.prog.globalNamed n = some g) (h : W.var? Tryz.prog n = some cs) : ∃ t fz, W.heap[g]? = some (.cells cs t fz) := by
  unfold World.var? at h
  rw [hg] at h
  simp only [Option.bind_some] at h
  cases hb : W.heap[g]? with
  | none => rw [hb] at h; cases h
  | some o =>
    rw [hb] at h
    cases o with
    | cells l t fz => dsimp only at h; cases h; exact ⟨t, fz, rfl⟩
    | _ => cases h
theorem nib_of_laid {W : World} (h : laidMet Tryz.prog laidL W) : NibM (all0 W) := by
  have h1 := h.tail.tail.tail.tail.tail
  rw [nib_is] at h1
  have h2 := Lib.tabIs_of_head gNib gNibT Tryz.underlying125 Tryz.underlying108 (by kernel_rfl) (by kernel_rfl) h1
  obtain ⟨t, fz, h3⟩ := heap_var gNib h2
  refine ⟨by decide, .inr ⟨0, 0, _, t, fz, rfl, h3, fun j v hv => ?_⟩⟩
  rw [Nat.zero_add]
  simpa [nibC, List.map_map] using hv
theorem err_of_laid {W : World} (h : laidMet Tryz.prog laidL W) : ErrM (all0 W) := by
  have h1 := h.tail.tail.tail.tail
  obtain ⟨a, s, h2, _⟩ := laid_sentinel h1 gErr gErrT Tryz.underlying130 rowE Tryz.underlying184 Tryz.underlying186 rfl rfl Tryz.underlying9 (by kernel_rfl) (by kernel_rfl)
  obtain ⟨t, fz, h3⟩ := heap_var gErr h2
  refine ⟨184, .pointer (some a), rfl, .inr ⟨3, 0, _, t, fz, rfl, h3, fun j v hv => ?_⟩⟩
  rw [Nat.zero_add]
  simpa using hv
theorem laid_fits (os : Os) : (World.holding Tryz.prog os ⟨#[], #[], []⟩).layFits Tryz.prog laidL [] = true := by kernel_rfl
theorem laid_ifaces (os : Os) : (World.holding Tryz.prog os ⟨#[], #[], []⟩).layIfaces Tryz.prog laidL (World.laidAll Tryz.prog os laidL) = true := by kernel_rfl
theorem laid_all (os : Os) (args : Array Value) : laidMet Tryz.prog laidL ((World.laidAll Tryz.prog os laidL).forCall (fun _ _ => 0) ⟨#[], args, []⟩).memory := laidMet_laidAll args (laid_fits os) (laid_ifaces os)
theorem Rd.yb {H : Type} {enc : TypeId × Value → H} {W : World} {cs : List Value} (h : Rd enc Tryz.prog W 31 cs) : ∃ v : YB, cs = v.cells ∧ (okYM (all0 W) v ∧ v.bs.length ≤ v.c) := by
  obtain ⟨a, c, bs, h1, h2, h3, h4⟩ := Rd.bytes h Tryz.underlying31 Tryz.underlying5 (by kernel_rfl)
  exact ⟨⟨a, c, bs⟩, h1, h4, h2⟩
end Go.Proofs.YtkleenllkjodoaaGreatDoor
namespace Go.Proofs.YtkleenllkjodoaaGreatDoor
open Go Go.SX
def fJ (n : Nat) (s : List UInt8) (lg : Option (List UInt8 × Nat)) : List FE := (nm 99 n, stP s, (stP s).length) :: (match lg with | none => [] | some v => [(nm 108 n, v)])
def dn (l : Int) : Int := max (l - 1) (-1)
theorem sB0 (b : Bool) (room : Int) (fs : List FE) : spendB ⟨0, b, room, fs⟩ = false := by unfold spendB; simp
theorem sD0 (room : Int) (fs : List FE) : spendD ⟨0, false, room, fs⟩ = ⟨0, true, room, fs⟩ := by unfold spendD; rw [sB0]; rfl
theorem sB1 {l : Int} (h : l ≠ 0) (room : Int) (fs : List FE) : spendB ⟨l, false, room, fs⟩ = true := by unfold spendB; simp [h]
theorem sD1 {l : Int} (h : l ≠ 0) (room : Int) (fs : List FE) : spendD ⟨l, false, room, fs⟩ = ⟨dn l, false, room, fs⟩ := by unfold spendD; rw [sB1 h]; rfl
theorem wr0E (room : Int) (fs : List FE) (b : List UInt8) : wrE ⟨0, false, room, fs⟩ b = 9 := by unfold wrE; rw [sB0, if_pos rfl]
theorem wr0S (room : Int) (fs : List FE) (n b : List UInt8) : wrS ⟨0, false, room, fs⟩ n b = ⟨0, true, room, fs⟩ := by unfold wrS; rw [wr0E, if_neg (by decide), sD0]
theorem wr1E {l : Int} (h : l ≠ 0) (room : Int) (fs : List FE) (b : List UInt8) : wrE ⟨l, false, room, fs⟩ b = if room < usedD fs + b.length then 8 else 0 := by
  unfold wrE; rw [sB1 h, if_neg (by decide), sD1 h]; rfl
theorem wr8S {l : Int} (h : l ≠ 0) {room : Int} {fs : List FE} {b : List UInt8} (n : List UInt8) (hf : room < usedD fs + b.length) : wrS ⟨l, false, room, fs⟩ n b = ⟨dn l, false, room, fs⟩ := by
  unfold wrS; rw [wr1E h, if_pos hf, if_neg (by decide), sD1 h]
theorem wr1S {l : Int} (h : l ≠ 0) {room : Int} {fs : List FE} {b : List UInt8} (n : List UInt8) (hf : ¬ room < usedD fs + b.length) : wrS ⟨l, false, room, fs⟩ n b = ⟨dn l, false, room, putL fs n (((lkL fs n).getD ([], 0)).1 ++ b, ((lkL fs n).getD ([], 0)).2)⟩ := by
  unfold wrS; rw [wr1E h, if_neg hf, if_pos rfl, sD1 h]; rfl
theorem fm0E (room : Int) (fs : List FE) (n : List UInt8) : fmE ⟨0, false, room, fs⟩ n = 9 := by unfold fmE; rw [sB0, if_pos rfl]
theorem fm0S (room : Int) (fs : List FE) (n : List UInt8) : fmS ⟨0, false, room, fs⟩ n = ⟨0, true, room, fs⟩ := by unfold fmS; rw [fm0E, if_neg (by decide), sD0]
theorem fm1E {l : Int} (h : l ≠ 0) {room : Int} {fs : List FE} {n : List UInt8} (hh : lkL fs n ≠ none) : fmE ⟨l, false, room, fs⟩ n = 0 := by unfold fmE; rw [sB1 h, if_neg (by decide), if_pos (show hasD ⟨l, false, room, fs⟩ n from hh)]
theorem fm1S {l : Int} (h : l ≠ 0) {room : Int} {fs : List FE} {n : List UInt8} (hh : lkL fs n ≠ none) : fmS ⟨l, false, room, fs⟩ n = ⟨dn l, false, room, putL fs n (((lkL fs n).getD ([], 0)).1, ((lkL fs n).getD ([], 0)).1.length)⟩ := by
  unfold fmS; rw [fm1E h hh, if_pos rfl, sD1 h]; rfl
theorem sw0E (room : Int) (fs : List FE) : swE ⟨0, false, room, fs⟩ = 9 := by unfold swE; rw [sB0, if_pos rfl]
theorem sw0S (room : Int) (fs : List FE) (n m : List UInt8) : swS ⟨0, false, room, fs⟩ n m = ⟨0, true, room, fs⟩ := by unfold swS; rw [sB0, if_pos rfl, sD0]
theorem sw1E {l : Int} (h : l ≠ 0) (room : Int) (fs : List FE) : swE ⟨l, false, room, fs⟩ = 0 := by unfold swE; rw [sB1 h, if_neg (by decide)]
theorem sw1S {l : Int} (h : l ≠ 0) (room : Int) (fs : List FE) (n m : List UInt8) : swS ⟨l, false, room, fs⟩ n m = swD ⟨dn l, false, room, fs⟩ n m := by unfold swS; rw [sB1 h, if_neg (by decide), sD1 h]
theorem dr0E (room : Int) (fs : List FE) (ns : List (List UInt8)) : drE ⟨0, false, room, fs⟩ ns = 9 := by unfold drE; rw [sB0, if_pos rfl]
theorem dr0S (room : Int) (fs : List FE) (ns : List (List UInt8)) : drS ⟨0, false, room, fs⟩ ns = ⟨0, true, room, fs⟩ := by unfold drS; rw [sB0, if_pos rfl, sD0]
theorem dr1E {l : Int} (h : l ≠ 0) (room : Int) (fs : List FE) (ns : List (List UInt8)) : drE ⟨l, false, room, fs⟩ ns = 0 := by unfold drE; rw [sB1 h, if_neg (by decide)]
theorem dr1S {l : Int} (h : l ≠ 0) (room : Int) (fs : List FE) (ns : List (List UInt8)) : drS ⟨l, false, room, fs⟩ ns = ⟨dn l, false, room, ns.foldl delL fs⟩ := by unfold drS; rw [sB1 h, if_neg (by decide), sD1 h]; rfl
theorem fJ_t (n : Nat) (s : List UInt8) (lg : Option (List UInt8 × Nat)) : ∀ u ∈ fJ n s lg, u.1 ≠ tN := by
  intro u hu
  unfold fJ at hu
  rcases List.mem_cons.1 hu with rfl | hu
  · exact nm_t n
  · cases lg with
    | none => cases hu
    | some v => rw [List.mem_singleton.1 hu]; exact nm_t' n
theorem fJ_c {n : Nat} (hn : n + 1 < 100) (s : List UInt8) (lg : Option (List UInt8 × Nat)) : ∀ u ∈ fJ n s lg, u.1 ≠ nm 99 (n + 1) := by
  intro u hu
  unfold fJ at hu
  rcases List.mem_cons.1 hu with rfl | hu
  · intro h; have := (nm_inj (by omega) hn h).2; omega
  · cases lg with
    | none => cases hu
    | some v => rw [List.mem_singleton.1 hu]; exact nm_ne' _ _
theorem putL_new {α : Type} {m : List (List UInt8 × α)} {x : List UInt8} (h : ∀ u ∈ m, u.1 ≠ x) (a : α) : putL m x a = m ++ [(x, a)] := by
  unfold putL
  rw [if_neg]
  intro h2
  obtain ⟨u, hu, hx⟩ := List.any_eq_true.1 h2
  exact h u hu (of_decide_eq_true hx)
theorem putL_app {α : Type} {m : List (List UInt8 × α)} {x : List UInt8} (h : ∀ u ∈ m, u.1 ≠ x) (a b : α) : putL (m ++ [(x, a)]) x b = m ++ [(x, b)] := putL_mid h (by simp)
theorem delL_app {α : Type} {m : List (List UInt8 × α)} {x : List UInt8} (h : ∀ u ∈ m, u.1 ≠ x) (a : α) : delL (m ++ [(x, a)]) x = m := by
  unfold delL
  rw [List.filter_append, List.filter_eq_self.2 (fun u hu => by simpa using h u hu)]
  simp
theorem fJ_used (n : Nat) (s : List UInt8) (lg : Option (List UInt8 × Nat)) : usedD (fJ n s lg) = (stP s).length + (lgB lg).length := dJ_used 0 n s lg
section
variable {l room : Int} {n k : Nat} {s s' : List UInt8} {lg : Option (List UInt8 × Nat)}
theorem fm_t (h : l ≠ 0) (b : List UInt8) (f : Nat) : fmE ⟨l, false, room, fJ n s lg ++ [(tN, b, f)]⟩ tN = 0 ∧ fmS ⟨l, false, room, fJ n s lg ++ [(tN, b, f)]⟩ tN = ⟨dn l, false, room, fJ n s lg ++ [(tN, b, b.length)]⟩ := by
  have hl : lkL (fJ n s lg ++ [(tN, b, f)]) tN = some (b, f) := lkL_mid (fJ_t n s lg)
  refine ⟨fm1E h (by rw [hl]; simp), ?_⟩
  rw [fm1S h (by rw [hl]; simp), hl, putL_app (fJ_t n s lg)]; rfl
theorem sw_t (h : l ≠ 0) (m b : List UInt8) : swS ⟨l, false, room, fJ n s lg ++ [(tN, b, b.length)]⟩ tN m = ⟨dn l, false, room, fJ n s lg ++ [(m, b, b.length)]⟩ := by
  have hl : lkL (fJ n s lg ++ [(tN, b, b.length)]) tN = some (b, b.length) := lkL_mid (fJ_t n s lg)
  rw [sw1S h]
  unfold swD fileD
  dsimp only
  rw [hl, delL_app (fJ_t n s lg)]
  dsimp only [Option.getD_some]
  rw [List.take_length]
theorem wr_t (h : l ≠ 0) {b : List UInt8} (hf : ¬ room < (((stP s).length + (lgB lg).length : Nat) : Int) + b.length) : wrE ⟨l, false, room, fJ n s lg⟩ b = 0 ∧ wrS ⟨l, false, room, fJ n s lg⟩ tN b = ⟨dn l, false, room, fJ n s lg ++ [(tN, b, 0)]⟩ := by
  have hf' : ¬ room < (usedD (fJ n s lg) : Nat) + (b.length : Int) := by rw [fJ_used]; exact hf
  refine ⟨by rw [wr1E h, if_neg hf'], ?_⟩
  rw [wr1S h _ hf', lkL_none (fJ_t n s lg), putL_new (fJ_t n s lg)]; rfl
theorem drop_J (hn : n + 1 < 100) (hk : lg.isSome = decide (0 < k)) (b : List UInt8) (f : Nat) : (oldJ ⟨⟨l, false, room, fJ n s lg⟩, n, k, false⟩).foldl delL (fJ n s lg ++ [(nm 99 (n + 1), b, f)]) = [(nm 99 (n + 1), b, f)] := by
  have h1 : nm 99 (n + 1) ≠ nm 99 n := by intro h; have := (nm_inj hn (by omega) h).2; omega
  unfold oldJ fJ
  dsimp only
  cases lg with
  | none =>
    have hk0 : ¬ 0 < k := fun h => by rw [decide_eq_true h] at hk; cases hk
    rw [if_neg hk0]
    simp only [List.foldl_cons, List.foldl_nil, List.cons_append, List.nil_append]
    rw [delL_cons, if_pos rfl, delL_cons, if_neg h1, delL_nil]
  | some v =>
    have hk0 : 0 < k := by by_cases h : 0 < k; exact h; rw [decide_eq_false h] at hk; cases hk
    rw [if_pos hk0]
    simp only [List.foldl_cons, List.foldl_nil, List.cons_append, List.nil_append]
    simp [delL_cons, delL_nil, h1, nm_ne, nm_ne']
theorem save_0 : savE ⟨⟨0, false, room, fJ n s lg⟩, n, k, false⟩ s' = 9 ∧ savS ⟨⟨0, false, room, fJ n s lg⟩, n, k, false⟩ s' = ⟨⟨0, true, room, fJ n s lg⟩, n, k, true⟩ := by
  have hE : layE ⟨0, false, room, fJ n s lg⟩ s' = 9 := by unfold layE; rw [wr0E, if_pos (by decide)]
  have hS : layS ⟨0, false, room, fJ n s lg⟩ s' (n + 1) = ⟨0, true, room, fJ n s lg⟩ := by unfold layS; rw [wr0E, if_pos (by decide), wr0S]
  exact ⟨by unfold savE; dsimp only; rw [hE, if_neg (by decide), if_pos (by decide)], by unfold savS; dsimp only; rw [hE, hS, if_neg (by decide), if_pos (by decide)]; rfl⟩
theorem save_8 (h : l ≠ 0) (hf : room < (((stP s).length + (lgB lg).length : Nat) : Int) + (stP s').length) : savE ⟨⟨l, false, room, fJ n s lg⟩, n, k, false⟩ s' = 8 ∧ savS ⟨⟨l, false, room, fJ n s lg⟩, n, k, false⟩ s' = ⟨⟨dn l, false, room, fJ n s lg⟩, n, k, false⟩ := by
  have hf' : room < (usedD (fJ n s lg) : Nat) + ((stP s').length : Int) := by rw [fJ_used]; exact hf
  have hw : wrE ⟨l, false, room, fJ n s lg⟩ (stP s') = 8 := by rw [wr1E h, if_pos hf']
  have hE : layE ⟨l, false, room, fJ n s lg⟩ s' = 8 := by unfold layE; rw [hw, if_pos (by decide)]
  have hS : layS ⟨l, false, room, fJ n s lg⟩ s' (n + 1) = ⟨dn l, false, room, fJ n s lg⟩ := by unfold layS; rw [hw, if_pos (by decide), wr8S h _ hf']
  exact ⟨by unfold savE; dsimp only; rw [hE, if_neg (by decide), if_pos (by decide)], by unfold savS; dsimp only; rw [hE, hS, if_neg (by decide), if_pos (by decide)]; rfl⟩
theorem save_1 (hf : ¬ room < (((stP s).length + (lgB lg).length : Nat) : Int) + (stP s').length) : savE ⟨⟨1, false, room, fJ n s lg⟩, n, k, false⟩ s' = 9 ∧ savS ⟨⟨1, false, room, fJ n s lg⟩, n, k, false⟩ s' = ⟨⟨0, true, room, fJ n s lg ++ [(tN, stP s', 0)]⟩, n, k, true⟩ := by
  obtain ⟨w1, w2⟩ := wr_t (l := 1) (room := room) (n := n) (by decide) hf
  have hE : layE ⟨1, false, room, fJ n s lg⟩ s' = 9 := by unfold layE; rw [w1, w2, if_neg (by decide), show dn 1 = 0 from rfl, fm0E, if_pos (by decide)]
  have hS : layS ⟨1, false, room, fJ n s lg⟩ s' (n + 1) = ⟨0, true, room, fJ n s lg ++ [(tN, stP s', 0)]⟩ := by unfold layS; rw [w1, w2, if_neg (by decide), show dn 1 = 0 from rfl, fm0E, if_pos (by decide), fm0S]
  exact ⟨by unfold savE; dsimp only; rw [hE, if_neg (by decide), if_pos (by decide)], by unfold savS; dsimp only; rw [hE, hS, if_neg (by decide), if_pos (by decide)]; rfl⟩
theorem save_2 (hf : ¬ room < (((stP s).length + (lgB lg).length : Nat) : Int) + (stP s').length) : savE ⟨⟨2, false, room, fJ n s lg⟩, n, k, false⟩ s' = 9 ∧ savS ⟨⟨2, false, room, fJ n s lg⟩, n, k, false⟩ s' = ⟨⟨0, true, room, fJ n s lg ++ [(tN, stP s', (stP s').length)]⟩, n, k, true⟩ := by
  obtain ⟨w1, w2⟩ := wr_t (l := 2) (room := room) (n := n) (by decide) hf
  obtain ⟨f1, f2⟩ := fm_t (l := dn 2) (room := room) (n := n) (s := s) (lg := lg) (by decide) (stP s') 0
  have hE : layE ⟨2, false, room, fJ n s lg⟩ s' = 9 := by unfold layE; rw [w1, w2, if_neg (by decide), f1, f2, if_neg (by decide), show dn (dn 2) = 0 from rfl, sw0E]
  have hS : layS ⟨2, false, room, fJ n s lg⟩ s' (n + 1) = ⟨0, true, room, fJ n s lg ++ [(tN, stP s', (stP s').length)]⟩ := by unfold layS; rw [w1, w2, if_neg (by decide), f1, f2, if_neg (by decide), show dn (dn 2) = 0 from rfl, sw0S]
  exact ⟨by unfold savE; dsimp only; rw [hE, if_neg (by decide), if_pos (by decide)], by unfold savS; dsimp only; rw [hE, hS, if_neg (by decide), if_pos (by decide)]; rfl⟩
theorem lay_k (h0 : l ≠ 0) (h1 : dn l ≠ 0) (h2 : dn (dn l) ≠ 0) (hf : ¬ room < (((stP s).length + (lgB lg).length : Nat) : Int) + (stP s').length) : layE ⟨l, false, room, fJ n s lg⟩ s' = 0 ∧ layS ⟨l, false, room, fJ n s lg⟩ s' (n + 1) = ⟨dn (dn (dn l)), false, room, fJ n s lg ++ [(nm 99 (n + 1), stP s', (stP s').length)]⟩ := by
  obtain ⟨w1, w2⟩ := wr_t (l := l) (room := room) (n := n) h0 hf
  obtain ⟨f1, f2⟩ := fm_t (l := dn l) (room := room) (n := n) (s := s) (lg := lg) h1 (stP s') 0
  refine ⟨by unfold layE; rw [w1, w2, if_neg (by decide), f1, f2, if_neg (by decide), sw1E h2], by unfold layS; rw [w1, w2, if_neg (by decide), f1, f2, if_neg (by decide), sw_t h2]⟩
theorem save_3 (hf : ¬ room < (((stP s).length + (lgB lg).length : Nat) : Int) + (stP s').length) : savE ⟨⟨3, false, room, fJ n s lg⟩, n, k, false⟩ s' = 9 ∧ savS ⟨⟨3, false, room, fJ n s lg⟩, n, k, false⟩ s' = ⟨⟨0, true, room, fJ n s lg ++ [(nm 99 (n + 1), stP s', (stP s').length)]⟩, n + 1, 0, true⟩ := by
  obtain ⟨hE, hS⟩ := lay_k (l := 3) (room := room) (n := n) (by decide) (by decide) (by decide) hf
  rw [show dn (dn (dn 3)) = 0 from rfl] at hS
  exact ⟨by unfold savE; dsimp only; rw [hE, hS, if_neg (by decide), if_neg (by decide), dr0E], by unfold savS; dsimp only; rw [hE, hS, if_neg (by decide), if_neg (by decide), dr0E, dr0S]; rfl⟩
theorem save_k (hn : n + 1 < 100) (hk : lg.isSome = decide (0 < k)) (h0 : l ≠ 0) (h1 : dn l ≠ 0) (h2 : dn (dn l) ≠ 0) (h3 : dn (dn (dn l)) ≠ 0) (hf : ¬ room < (((stP s).length + (lgB lg).length : Nat) : Int) + (stP s').length) : savE ⟨⟨l, false, room, fJ n s lg⟩, n, k, false⟩ s' = 0 ∧ savS ⟨⟨l, false, room, fJ n s lg⟩, n, k, false⟩ s' = ⟨⟨dn (dn (dn (dn l))), false, room, fJ (n + 1) s' none⟩, n + 1, 0, false⟩ := by
  obtain ⟨hE, hS⟩ := lay_k (l := l) (room := room) (n := n) h0 h1 h2 hf
  have hD := drop_J (l := l) (room := room) (n := n) (k := k) (s := s) (lg := lg) hn hk (stP s') (stP s').length
  exact ⟨by unfold savE; dsimp only; rw [hE, hS, if_neg (by decide), if_neg (by decide), dr1E h3], by unfold savS; dsimp only; rw [hE, hS, if_neg (by decide), if_neg (by decide), dr1E h3, dr1S h3, hD]; rfl⟩
end
end Go.Proofs.YtkleenllkjodoaaGreatDoor
namespace Go.Proofs.YtkleenllkjodoaaGreatDoor
open Go Go.SX
structure GD (fs : List FE) (n : Nat) (s : List UInt8 × Nat) (lg : Option (List UInt8 × Nat)) : Prop where
  key : keysOK fs
  na : ∀ u ∈ fs, u.1 = tN ∨ (∃ k, k ≤ n ∧ u.1 = nm 99 k) ∨ (∃ k, k < 100 ∧ u.1 = nm 108 k)
  c : lkL fs (nm 99 n) = some s
  l : lkL fs (nm 108 n) = lg
theorem putL_memF {α : Type} {m : List (List UInt8 × α)} {k : List UInt8} {a : α} {x : List UInt8 × α} (h : x ∈ putL m k a) : x ∈ m ∨ x = (k, a) := by
  unfold putL at h
  split at h
  · obtain ⟨u, hu, rfl⟩ := List.mem_map.1 h
    split
    · exact .inr rfl
    · exact .inl hu
  · rcases List.mem_append.1 h with h | h
    · exact .inl h
    · exact .inr (List.mem_singleton.1 h)
theorem mem_names {d : DK} {x : List UInt8} : x ∈ namesD d ↔ ∃ u ∈ d.fs, u.1 = x := by
  unfold namesD
  rw [(srtS_perm _).mem_iff, List.mem_map]
theorem lat_le (ns : List (List UInt8)) {x : List UInt8} {k : Nat} (hx : x ∈ ns) (hk : numOf 99 x = some k) : ∀ m : Int, (k : Int) ≤ ns.foldl latM m := by
  have hge : ∀ (ns : List (List UInt8)) (m : Int), m ≤ ns.foldl latM m := by
    intro ns
    induction ns with
    | nil => intro m; exact Int.le_refl _
    | cons n ns ih => intro m; rw [List.foldl_cons]; exact Int.le_trans (latM_ge m n) (ih _)
  induction ns with
  | nil => cases hx
  | cons n ns ih =>
    intro m
    rw [List.foldl_cons]
    rcases List.mem_cons.1 hx with rfl | hx
    · refine Int.le_trans ?_ (hge ns _)
      unfold latM; rw [hk]; dsimp only; omega
    · exact ih hx _
section
variable {d : DK} {n : Nat} {s : List UInt8 × Nat} {lg : Option (List UInt8 × Nat)}
theorem GD.has (h : GD d.fs n s lg) : nm 99 n ∈ namesD d := mem_names.2 ⟨_, lk_memL h.c, rfl⟩
theorem GD.good (hn : n < 100) (h : GD d.fs n s lg) : ∀ x ∈ namesD d, goodN x := by
  intro x hx
  obtain ⟨u, hu, rfl⟩ := mem_names.1 hx
  rcases h.na u hu with h | ⟨k, hk, h⟩ | ⟨k, hk, h⟩
  · exact .inr (.inr (.inl h))
  · exact .inl ⟨k, by omega, h⟩
  · exact .inr (.inl ⟨k, hk, h⟩)
theorem GD.lat (hn : n < 100) (h : GD d.fs n s lg) : latN (namesD d) = n := by
  have h1 : (n : Int) ≤ latN (namesD d) := lat_le _ h.has (numOf_nm hn) _
  rcases latN_cases (namesD d) with h2 | ⟨k, hk, h2, h3⟩
  · omega
  · obtain ⟨u, hu, hx⟩ := mem_names.1 h3
    rcases h.na u hu with h | ⟨k', hk', h⟩ | ⟨k', hk', h⟩
    · exact absurd (hx.symm.trans h) (nm_t k)
    · have := (nm_inj hk (by omega) (hx.symm.trans h)).2; omega
    · exact absurd (hx.symm.trans h) (nm_ne k k')
theorem GD.gen (hn : n < 100) (h : GD d.fs n s lg) : opN d = n := by unfold opN; rw [h.lat hn]; rfl
theorem GD.sta (hn : n < 100) (hd : d.down = false) (h : GD d.fs n s lg) : opB d = unP s.1 := by
  unfold opB
  rw [if_neg (by rw [h.lat hn]; omega), h.gen hn]
  unfold rdB
  rw [if_neg (by rw [hd]; decide), h.c]; rfl
theorem GD.old (hn : n < 100) (h : GD d.fs n s lg) : nm 99 n ∉ opO d ∧ nm 108 n ∉ opO d := by
  unfold opO latO
  rw [h.lat hn]
  refine ⟨fun hx => ?_, fun hx => ?_⟩
  · have := (List.mem_filter.1 hx).2
    unfold isOld at this
    rw [numOf_nm hn, show numOf 108 (nm 99 n) = none from numOf_ne (by decide), decide_eq_false (nm_t n)] at this
    simp at this
  · have := (List.mem_filter.1 hx).2
    unfold isOld at this
    rw [numOf_nm hn, show numOf 99 (nm 108 n) = none from numOf_ne (by decide), decide_eq_false (nm_t' n)] at this
    simp at this
end
section
variable {fs : List FE} {n : Nat} {s : List UInt8 × Nat} {lg : Option (List UInt8 × Nat)}
theorem GD.put (hn : n < 100) (h : GD fs n s lg) (v : List UInt8 × Nat) : GD (putL fs (nm 108 n) v) n s (some v) := by
  refine ⟨putL_ok h.key _ _, fun u hu => ?_, ?_, ?_⟩
  · rcases putL_memF hu with hu | rfl
    · exact h.na u hu
    · exact .inr (.inr ⟨n, hn, rfl⟩)
  · rw [lkL_put h.key, if_neg (nm_ne n n)]; exact h.c
  · rw [lkL_put h.key, if_pos rfl]
theorem delF_lk {x : List UInt8} : ∀ (ns : List (List UInt8)) (fs : List FE), x ∉ ns → lkL (ns.foldl delL fs) x = lkL fs x
  | [], _, _ => rfl
  | y :: ns, fs, h => by
    rw [List.foldl_cons, delF_lk ns _ (fun h2 => h (List.mem_cons_of_mem _ h2))]
    exact lkL_del y x (fun h2 => h (by rw [h2]; simp))
theorem delF_mem : ∀ (ns : List (List UInt8)) (fs : List FE), ∀ u ∈ ns.foldl delL fs, u ∈ fs
  | [], _, u, h => h
  | y :: ns, fs, u, h => by
    rw [List.foldl_cons] at h
    exact (List.mem_filter.1 (delF_mem ns _ u h)).1
theorem delF_ok : ∀ (ns : List (List UInt8)) (fs : List FE), keysOK fs → keysOK (ns.foldl delL fs)
  | [], _, h => h
  | y :: ns, fs, h => by rw [List.foldl_cons]; exact delF_ok ns _ (delL_ok h y)
theorem GD.drop (h : GD fs n s lg) {ns : List (List UInt8)} (h1 : nm 99 n ∉ ns) (h2 : nm 108 n ∉ ns) : GD (ns.foldl delL fs) n s lg :=
  ⟨delF_ok _ _ h.key, fun u hu => h.na u (delF_mem _ _ u hu), by rw [delF_lk _ _ h1]; exact h.c, by rw [delF_lk _ _ h2]; exact h.l⟩
theorem GD.crash (h : GD fs n s lg) (hs : s.2 = s.1.length) {kf : List UInt8 → Nat} (hk : ∀ u ∈ fs, u.2.2 + kf u.1 ≤ u.2.1.length) :
    GD (fs.map fun u => (u.1, u.2.1.take (u.2.2 + kf u.1), u.2.2 + kf u.1)) n s (lg.map fun v => (v.1.take (v.2 + kf (nm 108 n)), v.2 + kf (nm 108 n))) := by
  have hlk : ∀ x, lkL (fs.map fun u => (u.1, u.2.1.take (u.2.2 + kf u.1), u.2.2 + kf u.1)) x = (lkL fs x).map fun v => (v.1.take (v.2 + kf x), v.2 + kf x) := by
    intro x
    clear h hk
    induction fs with
    | nil => rfl
    | cons u fs ih =>
      obtain ⟨y, v⟩ := u
      rw [List.map_cons, lkL_cons, lkL_cons, ih]
      by_cases hy : y = x
      · rw [if_pos hy, if_pos hy, hy]; rfl
      · rw [if_neg hy, if_neg hy]
  refine ⟨?_, fun u hu => ?_, ?_, ?_⟩
  · unfold keysOK; rw [List.map_map]; exact h.key
  · obtain ⟨v, hv, rfl⟩ := List.mem_map.1 hu; exact h.na v hv
  · have := hk _ (lk_memL h.c)
    dsimp only at this
    obtain ⟨s1, s2⟩ := s
    dsimp only at hs this
    rw [hlk, h.c, Option.map_some, show s2 + kf (nm 99 n) = s1.length by omega, List.take_length, ← hs]
  · rw [hlk, h.l]
end
def LG (R : List (List UInt8)) (F : Nat) (lg : Option (List UInt8 × Nat)) : Prop :=
  (lg = none ∧ F = 0) ∨ ∃ m f, lg = some ((frs R).take m, f) ∧ (frs (R.take F)).length ≤ f ∧ f ≤ m ∧ m ≤ (frs R).length
def cntF : List (List UInt8) → Nat → Nat
  | [], _ => 0
  | r :: R, m => if 6 + r.length ≤ m then cntF R (m - (6 + r.length)) + 1 else 0
theorem cntF_le : ∀ (R : List (List UInt8)) (m : Nat), cntF R m ≤ R.length
  | [], _ => Nat.le_refl _
  | r :: R, m => by
    unfold cntF; split
    · have := cntF_le R (m - (6 + r.length)); rw [List.length_cons]; omega
    · exact Nat.zero_le _
theorem cntF_in : ∀ (R : List (List UInt8)) (m : Nat), (frs (R.take (cntF R m))).length ≤ m
  | [], _ => Nat.zero_le _
  | r :: R, m => by
    unfold cntF; split
    · have := cntF_in R (m - (6 + r.length)); rw [List.take_succ_cons, frs_cons, List.length_append, frB_len]; omega
    · exact Nat.zero_le _
theorem cntF_ge : ∀ (R : List (List UInt8)) (m i : Nat), i ≤ R.length → (frs (R.take i)).length ≤ m → i ≤ cntF R m
  | [], _, i, hi, _ => by unfold cntF; simpa using hi
  | r :: R, m, 0, _, _ => Nat.zero_le _
  | r :: R, m, i + 1, hi, h => by
    rw [List.take_succ_cons, frs_cons, List.length_append, frB_len] at h
    unfold cntF
    rw [if_pos (by omega)]
    have := cntF_ge R (m - (6 + r.length)) i (by simpa using hi) (by omega)
    omega
theorem nx_cut {p : List UInt8} {m : Nat} (hp : p.length ≤ 4096) (h : m < 6 + p.length) : nxE ((frB p).take m) ≠ 0 := by
  have hl : ((frB p).take m).length = m := by rw [List.length_take, frB_len]; omega
  unfold nxE
  by_cases h6 : m < 6
  · rw [hl, if_pos h6]; decide
  · rw [hl, if_neg h6]
    have hN : nxN ((frB p).take m) = p.length := by
      have h2 := (nx_fr p [] hp).2.2.2
      rw [List.append_nil] at h2
      rw [← h2]
      unfold nxN
      rw [List.drop_take, List.take_take, Nat.min_eq_left (by omega)]
    rw [hN, if_neg (by omega), if_pos (by omega)]
    decide
theorem logF_take {R : List (List UInt8)} (h : okRc R) (m : Nat) : logF ((frs R).take m) = R.take (cntF R m) := by
  induction R generalizing m with
  | nil => rw [show frs [] = [] from rfl, List.take_nil, logF_no (fun h => nxE_nil h.1)]; rfl
  | cons r R ih =>
    have hr := h r (by simp)
    have hR : okRc R := fun x hx => h x (by simp [hx])
    rw [frs_cons]
    unfold cntF
    by_cases hm : 6 + r.length ≤ m
    · rw [if_pos hm, List.take_append, List.take_of_length_le (by rw [frB_len]; exact hm), frB_len]
      have h1 := logF_fr (l := [r]) (r := (frs R).take (m - (6 + r.length))) (fun x hx => by rw [List.mem_singleton.1 hx]; exact hr)
      rw [show frs [r] = frB r from by unfold frs; simp] at h1
      rw [h1, ih hR, List.take_succ_cons]; rfl
    · rw [if_neg hm, List.take_append_of_le_length (by rw [frB_len]; omega), logF_no (fun h => nx_cut hr.1 (by omega) h.1)]
      rfl
theorem frs_pre (R : List (List UInt8)) (j : Nat) : frs (R.take j) = (frs R).take (frs (R.take j)).length := by
  conv => rhs; rw [show frs R = frs (R.take j) ++ frs (R.drop j) by rw [← frs_app, List.take_append_drop]]
  rw [List.take_left]
theorem frs_mono (R : List (List UInt8)) {i j : Nat} (h : i ≤ j) : (frs (R.take i)).length ≤ (frs (R.take j)).length := by
  have : R.take j = R.take i ++ (R.take j).drop i := by
    have h1 := List.take_append_drop i (R.take j)
    rw [List.take_take, Nat.min_eq_left h] at h1
    exact h1.symm
  rw [this, frs_app, List.length_append]; omega
theorem LG.crash {R : List (List UInt8)} {F : Nat} {lg : Option (List UInt8 × Nat)} (h : LG R F lg) (k : Nat) (hk : ∀ v, lg = some v → v.2 + k ≤ v.1.length) : LG R F (lg.map fun v => (v.1.take (v.2 + k), v.2 + k)) := by
  rcases h with ⟨rfl, h⟩ | ⟨m, f, rfl, h1, h2, h3⟩
  · exact .inl ⟨rfl, h⟩
  · have h4 := hk _ rfl
    dsimp only at h4
    rw [List.length_take, Nat.min_eq_left h3] at h4
    refine .inr ⟨f + k, f + k, ?_, by omega, Nat.le_refl _, by omega⟩
    dsimp only [Option.map_some]
    rw [List.take_take, Nat.min_eq_left h4]
theorem LG.trim {R : List (List UInt8)} (hR : okRc R) {F : Nat} (hF : F ≤ R.length) {m f : Nat} (h1 : (frs (R.take F)).length ≤ f) (h2 : f ≤ m) (h3 : m ≤ (frs R).length) :
    LG R F (some (((frs R).take m).take (frsL (logF ((frs R).take m))), min f (frsL (logF ((frs R).take m))))) := by
  have hc := cntF_ge R m F hF (by omega)
  have h4 := frs_mono R hc
  have h5 := cntF_in R m
  rw [logF_take hR, ← frs_len]
  refine .inr ⟨(frs (R.take (cntF R m))).length, min f (frs (R.take (cntF R m))).length, ?_, by omega, by omega, by omega⟩
  rw [List.take_take, Nat.min_eq_left h5]
theorem LG.firm {R : List (List UInt8)} {F : Nat} {b : List UInt8} {f : Nat} (h : LG R F (some (b, f))) : LG R F (some (b, b.length)) := by
  rcases h with ⟨h, _⟩ | ⟨m, f', h0, h1, h2, h3⟩
  · cases h
  · cases h0
    refine .inr ⟨m, m, ?_, by omega, Nat.le_refl _, h3⟩
    rw [List.length_take, Nat.min_eq_left h3]
end Go.Proofs.YtkleenllkjodoaaGreatDoor
namespace Go.Proofs.YtkleenllkjodoaaGreatDoor
open Go Go.SX
section
variable {d : DK} {n : Nat} {s : List UInt8 × Nat} {lg : Option (List UInt8 × Nat)} {R : List (List UInt8)} {F : Nat}
theorem fileD_of {d : DK} {x b : List UInt8} {f : Nat} (h : lkL d.fs x = some (b, f)) : fileD d x = (b, f) := by unfold fileD; rw [h]; rfl
theorem lo_GD (hn : n < 100) {b : List UInt8} {f : Nat} (h : GD d.fs n s (some (b, f))) (hL : LG R F (some (b, f))) : ∃ lg', GD (loD d (nm 108 n)).2.fs n s lg' ∧ LG R F lg' := by
  have hf := fileD_of h.l
  unfold loD
  split
  · dsimp only
    unfold fmS
    split
    · refine ⟨_, ?_, hL.firm⟩
      have h2 : GD (spendD d).fs n s (some (b, f)) := by rw [spendD_fs]; exact h
      have := h2.put hn (b, b.length)
      unfold fmD
      rw [fileD_spend, hf]
      exact this
    · exact ⟨_, by rw [spendD_fs]; exact h, hL⟩
  · exact ⟨_, h, hL⟩
theorem rd_of {d : DK} {x b : List UInt8} {f : Nat} (hd : d.down = false) (h : lkL d.fs x = some (b, f)) : rdE d x = 0 ∧ rdB d x = b := by
  refine ⟨by unfold rdE; rw [if_neg (by rw [hd]; decide), if_neg (by rw [h]; simp)], by unfold rdB; rw [if_neg (by rw [hd]; decide), h]; rfl⟩
theorem log_GD (hn : n < 100) (hd : d.down = false) (h : GD d.fs n s lg) (hR : okRc R) (hF : F ≤ R.length) (hL : LG R F lg) : ∃ lg', GD (logD d (nm 108 n)).2.fs n s lg' ∧ LG R F lg' := by
  rcases hL with ⟨rfl, hF0⟩ | ⟨m, f, rfl, h1, h2, h3⟩
  · have he : rdE d (nm 108 n) = 6 := by unfold rdE; rw [if_neg (by rw [hd]; decide), if_pos h.l]
    unfold logD
    rw [he, if_pos (by decide)]
    exact ⟨_, h, .inl ⟨rfl, hF0⟩⟩
  · obtain ⟨he, hb⟩ := rd_of hd h.l
    have hf := fileD_of h.l
    have hL : LG R F (some ((frs R).take m, f)) := .inr ⟨m, f, rfl, h1, h2, h3⟩
    unfold logD
    rw [he, if_neg (by decide), hb]
    split
    · have ht := LG.trim hR hF h1 h2 h3
      have hc : GD (tmS d (nm 108 n) (frsL (logF ((frs R).take m)))).fs n s (some ((frs R).take m, f)) ∨ GD (tmS d (nm 108 n) (frsL (logF ((frs R).take m)))).fs n s (some (((frs R).take m).take (frsL (logF ((frs R).take m))), min f (frsL (logF ((frs R).take m))))) := by
        unfold tmS
        split
        · right
          have h2 : GD (spendD d).fs n s (some ((frs R).take m, f)) := by rw [spendD_fs]; exact h
          have := h2.put hn (((frs R).take m).take (frsL (logF ((frs R).take m))), min f (frsL (logF ((frs R).take m))))
          unfold tmD
          rw [fileD_spend, hf]
          exact this
        · left; rw [spendD_fs]; exact h
      split
      · rcases hc with hc | hc
        · exact ⟨_, hc, hL⟩
        · exact ⟨_, hc, ht⟩
      · rcases hc with hc | hc
        · exact lo_GD hn hc hL
        · exact lo_GD hn hc ht
    · exact lo_GD hn h hL
theorem open_GD (hn : n < 100) (h : GD d.fs n s lg) (hR : okRc R) (hF : F ≤ R.length) (hL : LG R F lg) : ∃ lg', GD (opnS d).fs n s lg' ∧ LG R F lg' := by
  unfold opnS
  split
  · exact ⟨_, h, hL⟩
  · next hd =>
    have hd : d.down = false := by simpa using hd
    split
    · exact ⟨_, h, hL⟩
    · obtain ⟨lg', g1, g2⟩ := log_GD hn hd h hR hF hL
      have hg : GD (opL d).2.fs n s lg' := by unfold opL; rw [h.gen hn]; exact g1
      refine ⟨lg', ?_, g2⟩
      unfold opD
      split
      · dsimp only
        unfold drS
        split
        · rw [spendD_fs]; exact hg
        · show GD ((opO d).foldl delL (spendD (opL d).2).fs) n s lg'
          rw [spendD_fs]
          exact hg.drop (h.old hn).1 (h.old hn).2
      · exact hg
theorem tmE_live {d : DK} (h : live d) {n : List UInt8} (hh : hasD d n) : tmE d n = 0 := by unfold tmE; rw [h.sp, if_neg (by decide), if_pos hh]
theorem tmS_live {d : DK} (h : live d) {n : List UInt8} (hh : hasD d n) (k : Nat) : tmS d n k = tmD d n k := by unfold tmS; rw [tmE_live h hh, if_pos rfl, h.sd]
theorem lo_live (hl : live d) (hn : n < 100) {b : List UInt8} {f : Nat} (h : GD d.fs n s (some (b, f))) (hf : f ≤ b.length) : (loD d (nm 108 n)).1 = 0 ∧ live (loD d (nm 108 n)).2 ∧ GD (loD d (nm 108 n)).2.fs n s (some (b, b.length)) ∧ (loD d (nm 108 n)).2.room = d.room := by
  have hff := fileD_of h.l
  have hh : hasD d (nm 108 n) := by unfold hasD; rw [h.l]; simp
  unfold loD looseD
  rw [hff]
  split
  · dsimp only
    rw [fmE_live hl hh, fmS_live hl hh]
    refine ⟨rfl, fmD_live hl _, ?_, rfl⟩
    have := h.put hn (b, b.length)
    unfold fmD
    rw [hff]
    exact this
  · next h0 =>
    dsimp only at h0 ⊢
    have : f = b.length := by omega
    exact ⟨rfl, hl, by rw [← this]; exact h, rfl⟩
theorem open_live (hl : live d) (hn : n < 100) (h : GD d.fs n s lg) (hf : ∀ v, lg = some v → v.2 ≤ v.1.length) (hs : unP s.1 ≠ none) :
    opnE d = 0 ∧ live (opnS d) ∧ opR d = (match lg with | none => [] | some v => logF v.1) ∧
      GD (opnS d).fs n s (lg.map fun v => (v.1.take (frsL (logF v.1)), frsL (logF v.1))) ∧ (opnS d).room = d.room ∧ ∀ u ∈ (opnS d).fs, u.1 = nm 99 n ∨ u.1 = nm 108 n := by
  have hd := hl.d
  have hB := h.sta hn hd
  have hL : (opL d).1 = 0 ∧ live (opL d).2 ∧ opR d = (match lg with | none => [] | some v => logF v.1) ∧ GD (opL d).2.fs n s (lg.map fun v => (v.1.take (frsL (logF v.1)), frsL (logF v.1))) ∧ (opL d).2.room = d.room ∧ ∀ x, (∃ u ∈ (opL d).2.fs, u.1 = x) → ∃ u ∈ d.fs, u.1 = x := by
    unfold opR opL
    rw [h.gen hn]
    cases lg with
    | none =>
      have he : rdE d (nm 108 n) = 6 := by unfold rdE; rw [if_neg (by rw [hd]; decide), if_pos h.l]
      have hlg : logD d (nm 108 n) = (0, d) := by unfold logD; rw [he, if_pos (by decide)]
      rw [hlg]
      refine ⟨rfl, hl, by unfold logR; rw [he, if_pos (.inl (by decide))], h, rfl, fun x hx => hx⟩
    | some v =>
      obtain ⟨b, f⟩ := v
      have hf := hf _ rfl
      dsimp only at hf
      obtain ⟨he, hb⟩ := rd_of hd h.l
      have hff := fileD_of h.l
      have hle := logF_le b
      have hh : hasD d (nm 108 n) := by unfold hasD; rw [h.l]; simp
      have hput : ∀ (d2 : DK) (v : List UInt8 × Nat), lkL d2.fs (nm 108 n) ≠ none → ∀ x, (∃ u ∈ putL d2.fs (nm 108 n) v, u.1 = x) → ∃ u ∈ d2.fs, u.1 = x := by
        rintro d2 v h2 x ⟨u, hu, rfl⟩
        rcases putL_memF hu with hu | rfl
        · exact ⟨u, hu, rfl⟩
        · obtain ⟨w, hw⟩ := Option.ne_none_iff_exists'.1 h2
          exact ⟨_, lk_memL hw, rfl⟩
      have hlo : ∀ (d2 : DK) b2 f2, lkL d2.fs (nm 108 n) = some (b2, f2) → live d2 → ∀ x, (∃ u ∈ (loD d2 (nm 108 n)).2.fs, u.1 = x) → ∃ u ∈ d2.fs, u.1 = x := by
        intro d2 b2 f2 h2 hl2 x hx
        unfold loD at hx
        split at hx
        · dsimp only at hx
          rw [fmS_live hl2 (by unfold hasD; rw [h2]; simp)] at hx
          exact hput d2 _ (by rw [h2]; simp) x hx
        · exact hx
      have key : (logD d (nm 108 n)).1 = 0 ∧ live (logD d (nm 108 n)).2 ∧ GD (logD d (nm 108 n)).2.fs n s (some (b.take (frsL (logF b)), frsL (logF b))) ∧ (logD d (nm 108 n)).2.room = d.room ∧ ∀ x, (∃ u ∈ (logD d (nm 108 n)).2.fs, u.1 = x) → ∃ u ∈ d.fs, u.1 = x := by
        unfold logD
        rw [he, if_neg (by decide), hb]
        split
        · next hlt =>
          rw [tmE_live hl hh, if_neg (by decide), tmS_live hl hh]
          have hg : GD (tmD d (nm 108 n) (frsL (logF b))).fs n s (some (b.take (frsL (logF b)), min f (frsL (logF b)))) := by
            have := h.put hn (b.take (frsL (logF b)), min f (frsL (logF b)))
            unfold tmD
            rw [hff]
            exact this
          have hl2 : live (tmD d (nm 108 n) (frsL (logF b))) := ⟨hl.l, hl.d⟩
          have hlen : (b.take (frsL (logF b))).length = frsL (logF b) := by rw [List.length_take]; omega
          obtain ⟨g1, g2, g3, g4⟩ := lo_live hl2 hn hg (by rw [hlen]; omega)
          rw [hlen] at g3
          exact ⟨g1, g2, g3, g4, fun x hx => hput d _ (by rw [h.l]; simp) x (hlo _ _ _ hg.l hl2 x hx)⟩
        · next hlt =>
          have e : frsL (logF b) = b.length := by omega
          rw [e, List.take_length]
          obtain ⟨g1, g2, g3, g4⟩ := lo_live hl hn h hf
          exact ⟨g1, g2, g3, g4, fun x hx => hlo _ _ _ h.l hl x hx⟩
      refine ⟨key.1, key.2.1, ?_, key.2.2.1, key.2.2.2⟩
      unfold logR
      rw [he, key.1, if_neg (by simp), hb]
  obtain ⟨l1, l2, l3, l4, l5, l6⟩ := hL
  have hold : ∀ u ∈ d.fs, u.1 ∉ opO d → u.1 = nm 99 n ∨ u.1 = nm 108 n := by
    intro u hu hno
    have hm : u.1 ∈ namesD d := mem_names.2 ⟨u, hu, rfl⟩
    have hi : isOld n u.1 = false := by
      by_cases hi : isOld n u.1 = true
      · exact absurd (by unfold opO latO; rw [h.lat hn]; exact List.mem_filter.2 ⟨hm, hi⟩) hno
      · simpa using hi
    rcases h.na u hu with e | ⟨k, hk, e⟩ | ⟨k, hk, e⟩
    · rw [e] at hi; unfold isOld at hi; rw [decide_eq_true (show tN = [116] from rfl)] at hi; simp at hi
    · left
      rw [e] at hi ⊢
      unfold isOld at hi
      rw [numOf_nm (by omega)] at hi
      simp at hi
      rw [show k = n by have := hi.1.2; omega]
    · right
      rw [e] at hi ⊢
      unfold isOld at hi
      rw [numOf_nm hk] at hi
      simp at hi
      rw [show k = n by have := hi.2; omega]
  have hE : opnE d = (opD d).1 := by unfold opnE; rw [if_neg (by rw [hd]; decide), if_neg (by rw [hB]; exact hs)]
  have hS : opnS d = (opD d).2 := by unfold opnS; rw [if_neg (by rw [hd]; decide), if_neg (by rw [hB]; exact hs)]
  rw [hE, hS]
  unfold opD
  by_cases ho : opO d = []
  · rw [if_neg (fun hh => hh.2 ho)]
    refine ⟨l1, l2, l3, l4, l5, fun u hu => ?_⟩
    obtain ⟨w, hw, e⟩ := l6 u.1 ⟨u, hu, rfl⟩
    rw [← e]
    exact hold w hw (by rw [ho]; simp)
  · rw [if_pos ⟨l1, ho⟩, drE_live l2, drS_live l2]
    refine ⟨rfl, ⟨l2.l, l2.d⟩, l3, ?_, l5, fun u hu => ?_⟩
    · exact l4.drop (h.old hn).1 (h.old hn).2
    · have hno : ∀ (ns : List (List UInt8)) (fs : List FE), ∀ u ∈ ns.foldl delL fs, u.1 ∉ ns := by
        intro ns
        induction ns with
        | nil => intro fs u _; simp
        | cons y ns ih =>
          intro fs u hu
          rw [List.foldl_cons] at hu
          have h1 := (List.mem_filter.1 (delF_mem ns _ u hu)).2
          have h2 := ih _ u hu
          simp at h1
          simp [h1, h2]
      obtain ⟨w, hw, e⟩ := l6 u.1 ⟨u, delF_mem _ _ u hu, rfl⟩
      rw [← e]
      exact hold w hw (by rw [e]; exact hno _ _ u hu)
end
end Go.Proofs.YtkleenllkjodoaaGreatDoor
namespace Go.Proofs.YtkleenllkjodoaaGreatDoor
open Go Go.SX
attribute [local irreducible] swp opsS thenS blockS retS CallsS St Ent YieldS anyS drawS
theorem bit_and1 (b i : Nat) : (b / 2 ^ i) &&& 1 = (b >>> i) &&& 1 := by rw [Nat.shiftRight_eq_div_pow]
theorem bitN_lt (b : Nat) {c : Nat} (hc : c < 4294967296) : ∀ i, bitN b i c < 4294967296
  | 0 => hc
  | i + 1 => by
    have h := bitN_lt b hc i
    have h2 : bitN b i c >>> 1 < 4294967296 := by rw [Nat.shiftRight_eq_div_pow]; omega
    show bit1 b (bitN b i c) i < _
    unfold bit1
    split
    · exact xor_lt h2 (by decide)
    · exact h2
set_option maxHeartbeats 2000000 in
theorem RSum_spec (u : YB) (L : List HP) (h : okY L u) (hl : u.bs.length ≤ 1000000000) :
    CallsS Tryz.prog 73 [u.val] L (fun r L' => r = .int .u32 (crcB u.bs) ∧ L' = L) := by
  refine CallsS.of_body Tryz.func73 rfl rfl rfl ?_
  have hv0 := h
  unfold okY at hv0
  rw [← flat_bC] at hv0
  refine Q.r ?_; (repeat (intro b1; refine Q.r ?_))
  refine swp_cutB (σ := Unit) (fun _ => [(3, .int .u32 (crcF 4294967295 u.bs))]) (fun _ => L) (fun _ => True) ?_ ?_
  · refine swp_loop (σ := Nat) (fun j => [(8, u.val), (9, .int .i64 u.bs.length), (3, .int .u32 (crcF 4294967295 (u.bs.take j))), (10, .int .i64 j)]) (fun _ => L)
      (fun j => j ≤ u.bs.length) (fun j => u.bs.length - j) 0 ⟨rfl, rfl, rfl, rfl, trivial⟩ (Ent.refl _) (Nat.zero_le _) ?_
    intro j hj
    have hc0 : crcF 4294967295 (u.bs.take j) < 4294967296 := crcF_lt _ (by decide)
    by_cases hjl : j < u.bs.length
    · obtain ⟨x, hxj⟩ := mem_get hjl
      obtain ⟨b2, o2, hab2, hr2⟩ := RdS.elem (g := bC) (fun _ => rfl) hv0 hxj rfl
      have hsn : crcF 4294967295 (u.bs.take (j + 1)) = crcS (crcF 4294967295 (u.bs.take j)) x := by rw [take_snoc hxj, crcF_app]; rfl
      generalize crcF 4294967295 (u.bs.take j) = cc at hc0 hsn
      have hx8 := x.toNat_lt
      unfold YB.val
      rw [hab2]
      refine Q.r ?_; (repeat (intro b1; refine Q.r ?_))
      refine swp_loop (σ := Nat) (fun i => [(5, B x), (8, .slice (some ⟨b2, o2, none⟩) u.bs.length u.c), (9, .int .i64 u.bs.length), (10, .int .i64 j), (3, .int .u32 (bitN x.toNat i cc)), (14, .int .i64 i)]) (fun _ => L)
        (fun i => i ≤ 8) (fun i => 8 - i) 0 ⟨rfl, rfl, rfl, rfl, rfl, rfl, trivial⟩ (Ent.refl _) (Nat.zero_le _) ?_
      intro i hi
      have hb := bitN_lt x.toNat hc0 i
      by_cases hi8 : i < 8
      · have hi8' : (i : Int) < 8 := by omega
        have hbn : bitN x.toNat (i + 1) cc = bit1 x.toNat (bitN x.toNat i cc) i := rfl
        generalize bitN x.toNat i cc = y at hb hbn
        have l1 : x.toNat / 2 ^ i < 4294967296 := Nat.lt_of_le_of_lt (Nat.div_le_self _ _) (by omega)
        have l2 : y / 2 ^ 1 < 4294967296 := by omega
        unfold B
        refine Q.r ?_; (repeat (intro b1; refine Q.r ?_))
        refine S.y (Y.shr rfl rfl (by show i ≤ 8; omega)) ?_
        refine S.y (Y.cv32 rfl l1) ?_
        refine S.y (Y.and32 (b := 1) rfl rfl l1 (by decide)) ?_
        rw [bit_and1]
        by_cases he : y &&& 1 = (x.toNat >>> i) &&& 1
        · have hne : ((y &&& 1 : Nat) : Int) = (((x.toNat >>> i) &&& 1 : Nat) : Int) := by rw [he]
          rw [← he]
          refine Q.r ?_; (repeat (intro b1; refine Q.r ?_))
          refine S.y (Y.and32 (b := 1) rfl rfl hb (by decide)) ?_
          refine Q.r ?_; (repeat (intro b1; refine Q.r ?_))
          refine S.y (Y.shr (b := 1) rfl rfl (by decide)) ?_
          refine Q.r ?_; (repeat (intro b1; refine Q.r ?_))
          exact ⟨i + 1, ⟨rfl, rfl, rfl, rfl, by rw [hbn]; unfold bit1; rw [if_neg (fun h => h he), Nat.shiftRight_eq_div_pow]; rfl, rfl, trivial⟩, Ent.refl _, hi8, by omega⟩
        · have hne : ¬ ((y &&& 1 : Nat) : Int) = (((x.toNat >>> i) &&& 1 : Nat) : Int) := by omega
          refine Q.r ?_; (repeat (intro b1; refine Q.r ?_))
          refine S.y (Y.and32 (b := 1) rfl rfl hb (by decide)) ?_
          refine Q.r ?_; (repeat (intro b1; refine Q.r ?_))
          refine S.y (Y.shr (b := 1) rfl rfl (by decide)) ?_
          refine S.y (Y.xor32 (b := 3988292384) rfl rfl l2 (by decide)) ?_
          refine Q.r ?_; (repeat (intro b1; refine Q.r ?_))
          exact ⟨i + 1, ⟨rfl, rfl, rfl, rfl, by rw [hbn]; unfold bit1; rw [if_pos he, Nat.shiftRight_eq_div_pow]; rfl, rfl, trivial⟩, Ent.refl _, hi8, by omega⟩
      · have hie : i = 8 := by omega
        subst hie
        rw [bit8]
        refine Q.r ?_; (repeat (intro b1; refine Q.r ?_))
        exact ⟨j + 1, ⟨by rw [← hab2]; rfl, rfl, by rw [hsn]; rfl, rfl, trivial⟩, Ent.refl _, hjl, by omega⟩
    · have hje : j = u.bs.length := by omega
      subst hje
      refine Q.r ?_; (repeat (intro b1; refine Q.r ?_))
      exact ⟨(), ⟨by rw [List.take_length]; rfl, trivial⟩, Ent.refl _, trivial⟩
  · intro _ _
    have hc0 : crcF 4294967295 u.bs < 4294967296 := crcF_lt _ (by decide)
    refine Q.r ?_; (repeat (intro b1; refine Q.r ?_))
    refine S.y (Y.xor32 rfl rfl hc0 (by decide)) ?_
    refine Q.r ?_; (repeat (intro b1; refine Q.r ?_))
    exact N.r1 (RV.tmp rfl RV.nil) (Ent.refl _) ⟨rfl, rfl⟩
end Go.Proofs.YtkleenllkjodoaaGreatDoor
namespace Go.SX
open Go
def EntX (L : List HP) (F : List HP → Prop) : Prop := ∀ w G, St w (L ++ G) → ∃ L2, F L2 ∧ St w (L2 ++ G)
theorem EntX.ent {L L' : List HP} {F : List HP → Prop} (h : Ent L L') (hk : EntX L' F) : EntX L F := fun w G t => hk w G (h w G t)
theorem EntX.done {L : List HP} {F : List HP → Prop} (h : F L) : EntX L F := fun _ _ t => ⟨L, h, t⟩
theorem EntX.ex {α : Sort _} {X : α → HP} {L : List HP} {F : List HP → Prop} (h : ∀ x, EntX (X x :: L) F) : EntX (exH X :: L) F := fun w G t => let ⟨x, t⟩ := St.open_ex t; h x w G t
theorem EntX.pure {φ : Prop} {L : List HP} {F : List HP → Prop} (h : φ → EntX L F) : EntX (pureH φ :: L) F := fun w G t => let ⟨x, t⟩ := St.open_pure t; h x w G t
theorem EntX.abs (a : Option Addr) {t sz m c : Nat} {cs : List Value} {M : Nat → Option Obj} {L L0 L1 : List HP} {F : List HP → Prop} [h : PickS a L t sz m c cs L0] [h1 : PickM L0 M L1] (hk : ∀ M', leM M M' → SlM M' a m sz cs → EntX (roM M' :: L1) F) : EntX L F :=
  EntX.ent h.ent (EntX.ent Ent.absorb (EntX.ex fun M' => EntX.ent Ent.open_all (EntX.pure fun h => hk M' h.1 h.2)))
theorem CallsS.post {P : Program} {g : FuncId} {args : List Value} {L : List HP} {R R' : Value → List HP → Prop} (h : CallsS P g args L R) (hR : ∀ v L1, R v L1 → EntX L1 (R' v)) : CallsS P g args L R' := by
  intro F w t
  refine (h F w t).mono ?_
  rintro e w' ⟨v, M, rfl, t', r⟩
  obtain ⟨L2, h1, h2⟩ := hR v M r w' F t'
  exact ⟨v, L2, rfl, h2, h1⟩
end Go.SX
namespace Go.Proofs.YtkleenllkjodoaaGreatDoor
open Go Go.SX
attribute [local irreducible] swp opsS thenS blockS retS CallsS St Ent YieldS anyS drawS
theorem RCopyY_spec (a : Option Addr) (c : Nat) (bs : List UInt8) (L : List HP) (h : RdS L a bs.length 1 (bs.map B)) (hc : bs.length ≤ c) (hn : bs.length ≤ 100000000000) :
    CallsS Tryz.prog 60 [.slice a bs.length c] L (fun v L' => ∃ a' c', v = .slice a' bs.length c' ∧ L' = slO 5 1 a' bs.length c' (bs.map B) :: L) := by
  refine CallsS.of_body Tryz.func60 rfl rfl rfl ?_
  repeat (first | (refine GQ.y ?_; refine Q.y ?_) | refine Q.go ?_ | (refine GQ.g ?_; refine Q.gq ?_) | (refine GQ.s ?_; refine Q.st ?_))
  refine S.bs rfl rfl rfl rfl rfl (fun b => ?_)
  refine opsS_ent (slO_fold (sz := 1) (m := 0) rfl) ?_
  repeat (first | (refine GQ.y ?_; refine Q.y ?_) | refine Q.go ?_ | (refine GQ.g ?_; refine Q.gq ?_) | (refine GQ.s ?_; refine Q.st ?_))
  refine S.app0 rfl rfl rfl (SrcS.rd h.sub (B_one _)) (by rfl) (by omega) (by omega) (fun a' c' => ?_)
  repeat (first | (refine GQ.y ?_; refine Q.y ?_) | refine Q.go ?_ | (refine GQ.g ?_; refine Q.gq ?_) | (refine GQ.s ?_; refine Q.st ?_))
  refine N.r1 (RV.tmp rfl RV.nil) ?_ ⟨a', c', rfl, rfl⟩
  repeat (first | exact Ent.refl _ | exact Ent.nil | refine Ent.pick ?_ | refine Ent.nilS ?_ | refine Ent.nilM ?_ | refine Ent.drop ?_)
def cpR (M : Nat → Option Obj) (L0 : List HP) (bs : List UInt8) (r : Value) (L' : List HP) : Prop := ∃ v : YB, ∃ M', r = v.val ∧ v.bs = bs ∧ okYM M' v ∧ v.bs.length ≤ v.c ∧ leM M M' ∧ L' = roM M' :: L0
theorem RCopyM_spec (v : YB) (M : Nat → Option Obj) (L L0 : List HP) [hP : PickM L M L0] (h : okY L v) (hc : v.bs.length ≤ v.c) (hn : v.bs.length ≤ 100000000000) :
    CallsS Tryz.prog 60 [v.val] L (cpR M L0 v.bs) := by
  refine (RCopyY_spec v.a v.c v.bs L h hc hn).post fun r L' hr => ?_
  obtain ⟨a', c', rfl, rfl⟩ := hr
  refine EntX.ent slO_cap (EntX.pure fun hcap => ?_)
  exact EntX.abs a' fun M' hl hs => EntX.done ⟨⟨a', c', v.bs⟩, M', rfl, rfl, hs, hcap, hl, rfl⟩
end Go.Proofs.YtkleenllkjodoaaGreatDoor
namespace Go.Proofs.YtkleenllkjodoaaGreatDoor
open Go Go.SX
attribute [local irreducible] swp opsS thenS blockS retS CallsS St Ent YieldS anyS drawS
end Go.Proofs.YtkleenllkjodoaaGreatDoor
namespace Go.Proofs.YtkleenllkjodoaaGreatDoor
open Go Go.SX
attribute [local irreducible] swp opsS thenS blockS retS CallsS St Ent YieldS anyS drawS
theorem lowB_snoc : ∀ (k n : Nat), lowB (k + 1) n = lowB k n ++ [UInt8.ofNat (n / 256 ^ k % 256)]
  | 0, n => by simp [lowB]
  | k + 1, n => by
    have h := lowB_snoc k (n / 256)
    show UInt8.ofNat (n % 256) :: lowB (k + 1) (n / 256) = (UInt8.ofNat (n % 256) :: lowB k (n / 256)) ++ _
    rw [h, Nat.div_div_eq_div_mul, Nat.pow_succ, Nat.mul_comm 256]; rfl
theorem Bs_snoc (bs : List UInt8) (b : UInt8) : (bs ++ [b]).map B = bs.map B ++ [B b] := by rw [List.map_append]; rfl
set_option maxHeartbeats 1000000 in
theorem RLow_spec (n k : Nat) (L : List HP) (hn : n < 18446744073709551616) (hk : k ≤ 8) :
    CallsS Tryz.prog 90 [.int .u64 n, .int .i64 k] L (fun r L' => ∃ a c, r = .slice a k c ∧ L' = slO 5 1 a k c ((lowB k n).map B) :: L) := by
  refine CallsS.of_body Tryz.func90 rfl rfl rfl ?_
  refine Q.r ?_; (repeat (intro b1; refine Q.r ?_))
  refine swp_cutB (σ := Option Addr × Nat) (fun s => [(5, .slice s.1 k s.2)]) (fun s => slO 5 1 s.1 k s.2 ((lowB k n).map B) :: L) (fun _ => True) ?_ ?_
  · refine swp_loop (σ := Nat × Option Addr × Nat) (fun s => [(6, .int .i64 k), (0, .int .u64 (n / 256 ^ s.1 : Nat)), (5, .slice s.2.1 s.1 s.2.2), (7, .int .i64 s.1)])
      (fun s => slO 5 1 s.2.1 s.1 s.2.2 ((lowB s.1 n).map B) :: L) (fun s => s.1 ≤ k) (fun s => k - s.1) (0, none, 0) ⟨rfl, congrArg some (congrArg (Value.int .u64) (by simp)), rfl, rfl, trivial⟩ slO_nil (Nat.zero_le _) ?_
    rintro ⟨i, a, c⟩ hi
    dsimp only at hi ⊢
    by_cases hlt : i < k
    · have hm : n / 256 ^ i < 18446744073709551616 := Nat.lt_of_le_of_lt (Nat.div_le_self _ _) hn
      have hs := lowB_snoc i n
      have hd : n / 256 ^ (i + 1) = n / 256 ^ i / 256 := by rw [Nat.div_div_eq_div_mul, Nat.pow_succ]
      generalize n / 256 ^ i = m at hm hs hd
      refine Q.r ?_; (repeat (intro b1; refine Q.r ?_))
      refine S.y (Y.rem rfl rfl (by decide)) ?_
      rw [show Int.tmod (m : Int) 256 = ((m % 256 : Nat) : Int) from rfl]
      refine S.y (Y.cv8 rfl) ?_
      rw [Nat.mod_mod]
      refine Q.r ?_; (repeat (intro b1; refine Q.r ?_))
      refine S.app rfl rfl (SrcS.sl RdC.row (by rfl) (by rfl)) (by rfl) (by omega) (by omega) (fun a7 c7 => ?_)
      refine Q.r ?_; (repeat (intro b1; refine Q.r ?_))
      refine S.y (Y.quo rfl rfl (by decide)) ?_
      rw [show Int.tdiv (m : Int) 256 = ((m / 256 : Nat) : Int) from rfl, wrap_u64 (by omega) (by omega)]
      refine Q.r ?_; (repeat (intro b1; refine Q.r ?_))
      refine ⟨(i + 1, a7, c7), ⟨rfl, by rw [hd]; rfl, rfl, rfl, trivial⟩, ?_, by show i + 1 ≤ k; omega, by show k - (i + 1) < k - i; omega⟩
      dsimp only
      rw [hs, Bs_snoc]
      repeat (first | exact Ent.refl _ | exact Ent.nil | refine Ent.pick ?_ | refine Ent.nilS ?_ | refine Ent.nilM ?_ | refine Ent.drop ?_)
    · have hie : i = k := by omega
      subst hie
      refine Q.r ?_; (repeat (intro b1; refine Q.r ?_))
      exact ⟨(a, c), ⟨rfl, trivial⟩, Ent.refl _, trivial⟩
  · rintro ⟨a, c⟩ _
    refine Q.r ?_; (repeat (intro b1; refine Q.r ?_))
    exact N.r1 (RV.tmp rfl RV.nil) (Ent.refl _) ⟨a, c, rfl, rfl⟩
set_option maxHeartbeats 1000000 in
theorem RFrame_spec (v : YB) (M : Nat → Option Obj) (L0 : List HP) (h : okYM M v) (hl : v.bs.length ≤ 4096) :
    CallsS Tryz.prog 80 [v.val] (roM M :: L0) (fun r L' => ∃ u : YB, ∃ M', r = .tuple #[u.val, .int .i64 0] ∧ u.bs = frB v.bs ∧ okYM M' u ∧ u.bs.length ≤ u.c ∧ leM M M' ∧ L' = roM M' :: L0) := by
  refine CallsS.of_body Tryz.func80 rfl rfl rfl ?_
  refine Q.r ?_; (repeat (intro b1; refine Q.r ?_))
  refine S.y (Y.cvi rfl) ?_
  rw [wrap_u64 (by omega) (by omega)]
  refine S.cr rfl (RLow_spec v.bs.length 2 _ (by omega) (by decide)) ?_
  rintro _ _ ⟨a, c, rfl, rfl⟩
  refine Q.r ?_; (repeat (intro b1; refine Q.r ?_))
  refine S.app rfl rfl (SrcS.rd (okYM.rd h) (B_one _)) (by rfl) (by omega) (by omega) (fun a2 c2 => ?_)
  refine Q.r ?_; (repeat (intro b1; refine Q.r ?_))
  have hb : ((lowB 2 v.bs.length).map B ++ v.bs.map B) = (bodF v.bs).map B := by unfold bodF; rw [List.map_append]
  have hbl : (bodF v.bs).length = 2 + v.bs.length := by unfold bodF; rw [List.length_append, lowB_len]
  rw [hb]
  have hf : frB v.bs = lowB 4 (crcB (bodF v.bs)) ++ bodF v.bs := rfl
  generalize bodF v.bs = bd at hb hbl hf ⊢
  rw [← hbl]
  refine opsS_absc a2 (fun M1 hl1 hs1 hc1 => ?_)
  refine S.cr rfl (RSum_spec ⟨a2, c2, bd⟩ _ (SlM.rd hs1) (by dsimp only; omega)) ?_
  rintro _ _ ⟨rfl, rfl⟩
  dsimp only
  have hcr := crcB_lt bd
  refine S.y (Y.cvi rfl) ?_
  rw [wrap_u64 (by omega) (by omega)]
  refine S.cr rfl (RLow_spec (crcB bd) 4 _ (by omega) (by decide)) ?_
  rintro _ _ ⟨a3, c3, rfl, rfl⟩
  refine Q.r ?_; (repeat (intro b1; refine Q.r ?_))
  refine S.app rfl rfl (SrcS.rd (SlM.rd hs1) (B_one _)) (by rfl) (by omega) (by omega) (fun a4 c4 => ?_)
  rw [← List.map_append]
  have hfl : 4 + bd.length = (lowB 4 (crcB bd) ++ bd).length := by rw [List.length_append, lowB_len]
  rw [← hf] at hfl ⊢
  rw [hfl]
  refine opsS_absc a4 (fun M2 hl2 hs2 hc2 => ?_)
  refine Q.r ?_; (repeat (intro b1; refine Q.r ?_))
  exact N.r2 (RV.tmp rfl (RV.tmp rfl RV.nil)) (Ent.refl _) ⟨⟨a4, c4, frB v.bs⟩, M2, rfl, rfl, hs2, hc2, hl1.trans hl2, rfl⟩
theorem okYM.nil {M : Nat → Option Obj} : okYM M ⟨none, 0, []⟩ := SlM.nil
set_option maxHeartbeats 2000000 in
theorem RState_spec (u : YB) (M : Nat → Option Obj) (L0 : List HP) (h : okYM M u) (hc : u.bs.length ≤ u.c) (hb : u.bs.length ≤ 1000000) :
    CallsS Tryz.prog 59 [u.val] (roM M :: L0) (cpR M L0 (stP u.bs)) := by
  refine CallsS.of_body Tryz.func59 rfl rfl rfl ?_
  have hstl := stP_len u.bs
  have hst := stP_frs u.bs
  refine Q.r ?_; (repeat (intro b1; refine Q.r ?_))
  refine swp_cutB (σ := List UInt8 × (Nat → Option Obj) × Option Addr × Nat) (fun s => [(3, .slice s.2.2.1 s.1.length s.2.2.2)])
    (fun s => slO 5 1 s.2.2.1 s.1.length s.2.2.2 (s.1.map B) :: roM s.2.1 :: L0) (fun s => s.1 ++ frs [[]] = stP u.bs ∧ leM M s.2.1) ?_ ?_
  · refine swp_loop (σ := List UInt8 × YB × (Nat → Option Obj) × Option Addr × Nat) (fun s => [(0, s.2.1.val), (3, .slice s.2.2.2.1 s.1.length s.2.2.2.2)])
      (fun s => slO 5 1 s.2.2.2.1 s.1.length s.2.2.2.2 (s.1.map B) :: roM s.2.2.1 :: L0)
      (fun s => s.1 ++ frs (chL s.2.1.bs ++ [[]]) = stP u.bs ∧ okYM s.2.2.1 s.2.1 ∧ s.2.1.bs.length ≤ s.2.1.c ∧ s.2.1.bs.length ≤ u.bs.length ∧ leM M s.2.2.1) (fun s => s.2.1.bs.length) ([], u, M, none, 0) ⟨rfl, rfl, trivial⟩ slO_nil ⟨by rw [hst]; rfl, h, hc, Nat.le_refl _, leM.refl _⟩ ?_
    rintro ⟨acc, w, M1, a1, c1⟩ ⟨hat, hwo, hwc, hwl, hl⟩
    dsimp only at *
    by_cases h0 : w.bs.length = 0
    · have hnil : w.bs = [] := List.length_eq_zero_iff.1 h0
      rw [hnil, chL_nil, List.nil_append] at hat
      refine Q.r ?_; (repeat (intro b1; refine Q.r ?_))
      exact ⟨(acc, M1, a1, c1), ⟨rfl, trivial⟩, Ent.refl _, hat, hl⟩
    · have hpos : (0 : Int) < w.bs.length := by omega
      have hne : w.bs ≠ [] := fun hh => h0 (by rw [hh]; rfl)
      rw [chL_cons hne, List.cons_append, frs_cons, ← List.append_assoc] at hat
      obtain ⟨k, hk⟩ : ∃ k, k = min w.bs.length 4096 := ⟨_, rfl⟩
      have htk : w.bs.take 4096 = w.bs.take k := by rw [hk, List.take_eq_take_iff]; omega
      have hdk : w.bs.drop 4096 = w.bs.drop k := by
        by_cases h1 : 4096 ≤ w.bs.length
        · rw [hk, Nat.min_eq_right h1]
        · rw [List.drop_eq_nil_of_le (by omega), List.drop_eq_nil_of_le (by omega)]
      rw [htk, hdk] at hat
      have hkl : k ≤ w.bs.length := by omega
      have hlt : k = (w.bs.take k).length := by rw [List.length_take]; omega
      obtain ⟨b, o, hwa, _⟩ := (SlM.rd (L := roM M1 :: L0) hwo).2.resolve_left h0
      have hwo2 : SlM M1 (some ⟨b, o, none⟩) w.bs.length 1 (w.bs.map B) := by rw [← hwa]; exact hwo
      have hso : okYM M1 ⟨some ⟨b, o, none⟩, w.c, w.bs.take k⟩ := by
        have := SlM.take hwo2 hkl
        unfold okYM
        dsimp only
        rw [← hlt, List.map_take]
        simpa using this
      have htl := okYM.tail hwo2 hwc k hkl
      unfold YB.val
      rw [hwa]
      refine Q.r ?_; (repeat (intro b1; refine Q.r ?_))
      refine S.y (Y.slT (h := (w.bs.take k).length) rfl rfl (by rw [← hlt, hk]; omega) (by omega)) ?_
      obtain ⟨wt, hwt⟩ : ∃ wt, wt = w.bs.take k := ⟨_, rfl⟩
      rw [← hwt] at hso hat hlt ⊢
      refine S.cq (A := roM M1) rfl (RFrame_spec ⟨some ⟨b, o, none⟩, w.c, wt⟩ M1 _ hso (by dsimp only; omega)) ?_
      rintro _ _ ⟨v, M2, rfl, hv, hvo, hvc, hl2, rfl⟩
      dsimp only at hv
      have hvl : v.bs.length = 6 + wt.length := by rw [hv, frB_len]
      have hal : acc.length ≤ (stP u.bs).length := by rw [← hat, List.length_append, List.length_append]; omega
      refine Q.r ?_; (repeat (intro b1; refine Q.r ?_))
      refine Q.dgo [] [2] [] [0, 1, 3, 4, 5, 2, 6, 7] ?_
      refine Q.rd ?_; (repeat (intro b1; refine Q.rd ?_))
      refine D.yp rfl rfl rfl (Y.slF (l := k) rfl rfl (by rw [hk]; omega) (by omega)) ?_
      have elt : w.bs.length - k = (w.bs.drop k).length := by rw [List.length_drop]
      rw [elt]
      refine D.e rfl rfl rfl ?_
      refine S.app rfl rfl (SrcS.rd hvo.rd (B_one _)) (by rfl) (by omega) (by omega) (fun a7 c7 => ?_)
      rw [← List.map_append, hv, show acc.length + (frB wt).length = (acc ++ frB wt).length by rw [List.length_append]]
      refine Q.r ?_; (repeat (intro b1; refine Q.r ?_))
      refine Q.rd ?_; (repeat (intro b1; refine Q.rd ?_))
      refine Q.r ?_; (repeat (intro b1; refine Q.r ?_))
      exact ⟨(acc ++ frB wt, ⟨some ⟨b, if w.c = k then o else o + k * 1, none⟩, w.c - k, w.bs.drop k⟩, M2, a7, c7), ⟨rfl, rfl, trivial⟩, by repeat (first | exact Ent.refl _ | exact Ent.nil | refine Ent.pick ?_ | refine Ent.nilS ?_ | refine Ent.nilM ?_ | refine Ent.drop ?_), ⟨hat, htl.mono hl2, by show (w.bs.drop k).length ≤ w.c - k; rw [List.length_drop]; omega, by show (w.bs.drop k).length ≤ u.bs.length; rw [List.length_drop]; omega, hl.trans hl2⟩, by show (w.bs.drop k).length < w.bs.length; rw [List.length_drop]; omega⟩
  · rintro ⟨acc, M1, a1, c1⟩ ⟨hat, hl⟩
    dsimp only at *
    refine Q.r ?_; (repeat (intro b1; refine Q.r ?_))
    refine S.cq (A := roM M1) rfl (RFrame_spec ⟨none, 0, []⟩ M1 _ SlM.nil (by decide)) ?_
    rintro _ _ ⟨v, M2, rfl, hv, hvo, hvc, hl2, rfl⟩
    refine Q.r ?_; (repeat (intro b1; refine Q.r ?_))
    have hvl : v.bs.length = 6 := by rw [hv, frB_len]; rfl
    have hfr : frB [] = frs [[]] := by unfold frs; simp
    rw [hfr] at hv
    have hal : acc.length ≤ (stP u.bs).length := by rw [← hat, List.length_append]; omega
    refine S.app rfl rfl (SrcS.rd hvo.rd (B_one _)) (by rfl) (by omega) (by omega) (fun a7 c7 => ?_)
    rw [← List.map_append, hv, hat, show acc.length + (frs [[]]).length = (stP u.bs).length by rw [← hat, List.length_append]]
    refine opsS_absc a7 (fun M3 hl3 hs3 hc3 => ?_)
    refine Q.r ?_; (repeat (intro b1; refine Q.r ?_))
    exact N.r1 (RV.tmp rfl RV.nil) (Ent.refl _) ⟨⟨a7, c7, stP u.bs⟩, M3, rfl, rfl, hs3, hc3, hl.trans (hl2.trans hl3), rfl⟩
end Go.Proofs.YtkleenllkjodoaaGreatDoor
namespace Go.Proofs.YtkleenllkjodoaaGreatDoor
open Go Go.SX
attribute [local irreducible] swp opsS thenS blockS retS CallsS St Ent YieldS anyS drawS
abbrev rjP (b n : Nat) (s : YB) (ra : Option Addr) (rc m f : Nat) (lg : Bool) (room : Int) : HP := pt b (cl [.int .i64 n, s.val, .slice ra m rc, .int .i64 f, .bool lg, .int .i64 room] 66)
def begR (room : Int) (u : YB) (M : Nat → Option Obj) (L : List HP) (r : Value) (L' : List HP) : Prop :=
  ∃ M', leM M M' ∧ ((room < (stP u.bs).length ∧ r = .tuple #[nilP, nilP, nilP] ∧ L' = roM M' :: L) ∨
    (¬ room < (stP u.bs).length ∧ ∃ q p b, r = .tuple #[ptrD q, ptrD p, ptrD b] ∧ L' = jnP q p 0 0 false :: diskH p (dJ room 0 u.bs none) :: rjP b 0 u none 0 0 0 false room :: roM M' :: L))
set_option maxHeartbeats 4000000 in
theorem begin_spec (room : Int) (u : YB) (M : Nat → Option Obj) (L : List HP) (hr : 0 ≤ room ∧ room ≤ 1048576) (hu : okYM M u) (huc : u.bs.length ≤ u.c) (hl : u.bs.length ≤ 1048575) (hE : ErrM M) (hT : NibM M) :
    CallsS Tryz.prog 10 [.int .i64 room, u.val] (roM M :: L) (begR room u M L) := by
  refine CallsS.of_body Tryz.func10 rfl rfl rfl ?_
  refine Q.r ?_; (repeat (intro b1; refine Q.r ?_))
  refine S.cr rfl (DNew_spec room _ hr) ?_
  rintro _ _ ⟨p, rfl, rfl⟩
  refine Q.r ?_; (repeat (intro b1; refine Q.r ?_))
  obtain ⟨f1, f2⟩ := fo_0 room u.bs
  refine S.ckm p rfl (Format_spec p (D0 room) u.a u.c u.bs M _ hu hT huc hl) ?_
  rintro _ _ ⟨rfl, M1, hl1, rfl⟩
  rw [f1]
  by_cases hf : room < (stP u.bs).length
  · rw [if_pos hf]
    refine Q.r ?_; (repeat (intro b1; refine Q.r ?_))
    exact N.r3 (RV.tmp rfl (RV.tmp rfl (RV.tmp rfl RV.nil))) (L' := roM M1 :: L) (by repeat (first | exact Ent.refl _ | exact Ent.nil | refine Ent.pick ?_ | refine Ent.nilS ?_ | refine Ent.nilM ?_ | refine Ent.drop ?_)) ⟨M1, hl1, .inl ⟨hf, rfl, rfl⟩⟩
  · rw [if_neg hf, f2 hf]
    refine Q.r ?_; (repeat (intro b1; refine Q.r ?_))
    refine S.ckm p rfl (Open_spec p _ M1 _ (hE.mono hl1) (hT.mono hl1) (goodJ (by decide))) ?_
    obtain ⟨o1, o2, o3, o4, o5⟩ := open_J (room := room) (n := 0) (s := u.bs) (R := []) (lg := none) (by decide) (fun x hx => by cases hx) (.inl ⟨rfl, rfl⟩)
    rintro _ _ ⟨M2, hl2, ⟨h, _⟩ | ⟨_, q, sv, a, c, vs, rfl, hsv, hso, _, hvs, _, _, _, rfl⟩⟩
    · exact absurd o1 h
    rw [o5] at hvs
    rw [o4] at hsv
    have hsv2 : sv.bs = u.bs := Option.some.inj hsv
    have hvl : vs.length = 0 := by rw [← List.length_map (f := YB.bs), hvs]; rfl
    rw [o2, o3, hvl, Option.map_none]
    refine Q.r ?_; (repeat (intro b1; refine Q.r ?_))
    refine S.cr rfl (YSame_spec sv u _ hso.rd (hu.mono (hl1.trans hl2)).rd) ?_
    rintro _ _ ⟨rfl, rfl⟩
    rw [decide_eq_true hsv2]
    refine Q.r ?_; (repeat (intro b1; refine Q.r ?_))
    exact N.r3 (RV.tmp rfl (RV.tmp rfl (RV.tmp rfl RV.nil))) (L' := jnP q p 0 0 false :: diskH p (dJ room 0 u.bs none) :: rjP b1 0 u none 0 0 0 false room :: roM M2 :: L) (by repeat (first | exact Ent.refl _ | exact Ent.nil | refine Ent.pick ?_ | refine Ent.nilS ?_ | refine Ent.nilM ?_ | refine Ent.drop ?_)) ⟨M2, hl1.trans hl2, .inr ⟨hf, q, p, b1, rfl, rfl⟩⟩
end Go.Proofs.YtkleenllkjodoaaGreatDoor
namespace Go.Proofs.YtkleenllkjodoaaGreatDoor
open Go Go.SX
attribute [local irreducible] swp opsS thenS blockS retS CallsS St Ent YieldS anyS drawS
theorem frs_le {R : List (List UInt8)} {n : Nat} (h : ∀ r ∈ R, r.length ≤ n) : (frs R).length ≤ R.length * (6 + n) := by
  induction R with
  | nil => simp [frs]
  | cons x R ih =>
    have h1 := ih (fun r hr => h r (by simp [hr]))
    have h2 := h x (by simp)
    rw [frs_cons, List.length_append, frB_len, List.length_cons, Nat.succ_mul]; omega
theorem ptC_ok {rs : List (List UInt8)} (h : okRc rs) : ptC rs = 0 := by
  unfold ptC cdL
  rw [if_neg (by rintro ⟨r, hr, h0⟩; exact (h r hr).2 h0), if_neg (by rintro ⟨r, hr, h0⟩; have := (h r hr).1; omega)]
end Go.Proofs.YtkleenllkjodoaaGreatDoor
namespace Go.Proofs.YtkleenllkjodoaaGreatDoor
open Go Go.SX
attribute [local irreducible] swp opsS thenS blockS retS CallsS St Ent YieldS anyS drawS
set_option maxHeartbeats 1000000 in
theorem RBytes_spec (a : Option Addr) (c : Nat) (vs : List YB) (M : Nat → Option Obj) (L0 : List HP) (h : SlM M a vs.length 1 (vs.flatMap YB.cells)) (hl : (frs (vs.map YB.bs)).length ≤ 1000000000) :
    CallsS Tryz.prog 61 [.slice a vs.length c] (roM M :: L0) (fun r L' => r = .int .i64 (frs (vs.map YB.bs)).length ∧ L' = roM M :: L0) := by
  refine CallsS.of_body Tryz.func61 rfl rfl rfl ?_
  have hvl := frsL_ge (vs.map YB.bs)
  rw [← frs_len, List.length_map] at hvl
  refine Q.r ?_; (repeat (intro b1; refine Q.r ?_))
  refine swp_cutB (σ := Unit) (fun _ => [(3, .int .i64 (frs (vs.map YB.bs)).length)]) (fun _ => roM M :: L0) (fun _ => True) ?_ ?_
  · refine swp_loop (σ := Nat) (fun k => [(6, .slice a vs.length c), (7, .int .i64 vs.length), (3, .int .i64 (frs ((vs.take k).map YB.bs)).length), (8, .int .i64 k)]) (fun _ => roM M :: L0) (fun k => k ≤ vs.length) (fun k => vs.length - k) 0 ⟨rfl, rfl, rfl, rfl, trivial⟩ (Ent.refl _) (Nat.zero_le _) ?_
    intro k hk
    by_cases hlt : k < vs.length
    · obtain ⟨v, hv⟩ := mem_get hlt
      obtain ⟨b, o, rfl, hr⟩ := SlM.cm (g := YB.cells) (fun _ => rfl) h hv rfl
      have hs : (frs ((vs.take (k + 1)).map YB.bs)).length = (frs ((vs.take k).map YB.bs)).length + (6 + v.bs.length) := by
        rw [take_snoc hv, List.map_append, frs_app, List.length_append, show [v].map YB.bs = [v.bs] from rfl, frs_len [v.bs], frsL_one]
      have hle : (frs ((vs.take (k + 1)).map YB.bs)).length ≤ (frs (vs.map YB.bs)).length := by
        conv => rhs; rw [show vs = vs.take (k + 1) ++ vs.drop (k + 1) from (List.take_append_drop _ _).symm]
        rw [List.map_append, frs_app, List.length_append]; omega
      refine Q.r ?_; (repeat (intro b1; refine Q.r ?_))
      exact ⟨k + 1, ⟨rfl, rfl, congrArg some (congrArg (Value.int .i64) (by omega)), rfl, trivial⟩, Ent.refl _, hlt, by omega⟩
    · have hke : k = vs.length := by omega
      subst hke
      rw [List.take_length]
      refine Q.r ?_; (repeat (intro b1; refine Q.r ?_))
      exact ⟨(), ⟨rfl, trivial⟩, Ent.refl _, trivial⟩
  · intro _ _
    refine Q.r ?_; (repeat (intro b1; refine Q.r ?_))
    exact N.r1 (RV.tmp rfl RV.nil) (Ent.refl _) ⟨rfl, rfl⟩
set_option maxHeartbeats 2000000 in
theorem RUsed_spec (b n : Nat) (s : YB) (ra : Option Addr) (rc f : Nat) (lg : Bool) (room : Int) (vs : List YB) (M : Nat → Option Obj) (L0 : List HP) (hs : okYM M s) (hc : s.bs.length ≤ s.c) (hsl : s.bs.length ≤ 1000000) (h : SlM M ra vs.length 1 (vs.flatMap YB.cells)) (hl : (frs (vs.map YB.bs)).length ≤ 1000000000) :
    CallsS Tryz.prog 58 [ptrD b] (rjP b n s ra rc vs.length f lg room :: roM M :: L0) (fun r L' => r = .int .i64 ((stP s.bs).length + (frs (vs.map YB.bs)).length : Nat) ∧ ∃ M', leM M M' ∧ L' = rjP b n s ra rc vs.length f lg room :: roM M' :: L0) := by
  refine CallsS.of_body Tryz.func58 rfl rfl rfl ?_
  have hst := stP_len s.bs
  refine Q.r ?_; (repeat (intro b1; refine Q.r ?_))
  refine Q.dgo [true] [4, 10] [] [0, 1, 2, 3, 6, 7, 8, 9, 4, 5, 10, 11, 12] ?_
  repeat (first | refine D.endA ?_ | refine Q.dp rfl rfl rfl ?_ | refine Q.dy rfl rfl rfl ?_ | refine D.end_ ?_ | refine Q.endH ?_ | (refine D.e rfl rfl rfl ?_; (first | refine S.gskip1 rfl ?_ | refine S.gskip rfl ?_ | refine S.y (Y.gskipU rfl) ?_); refine opsS_nil ?_; refine N.tn ?_))
  refine D.e rfl rfl rfl ?_
  refine S.cr rfl (RState_spec s M _ hs hc hsl) ?_
  rintro _ _ ⟨v, M1, rfl, hv, hvo, hvc, hl1, rfl⟩
  have hvl : v.bs.length = (stP s.bs).length := by rw [hv]
  refine Q.r ?_; (repeat (intro b1; refine Q.r ?_))
  repeat (first | refine D.endA ?_ | refine Q.dp rfl rfl rfl ?_ | refine Q.dy rfl rfl rfl ?_ | refine D.end_ ?_ | refine Q.endH ?_ | (refine D.e rfl rfl rfl ?_; (first | refine S.gskip1 rfl ?_ | refine S.gskip rfl ?_ | refine S.y (Y.gskipU rfl) ?_); refine opsS_nil ?_; refine N.tn ?_))
  refine D.e rfl rfl rfl ?_
  refine S.cr rfl (RBytes_spec ra rc vs M1 _ (h.mono hl1) hl) ?_
  rintro _ _ ⟨rfl, rfl⟩
  refine Q.r ?_; (repeat (intro b1; refine Q.r ?_))
  repeat (first | refine D.endA ?_ | refine Q.dp rfl rfl rfl ?_ | refine Q.dy rfl rfl rfl ?_ | refine D.end_ ?_ | refine Q.endH ?_ | (refine D.e rfl rfl rfl ?_; (first | refine S.gskip1 rfl ?_ | refine S.gskip rfl ?_ | refine S.y (Y.gskipU rfl) ?_); refine opsS_nil ?_; refine N.tn ?_))
  refine Q.r ?_; (repeat (intro b1; refine Q.r ?_))
  exact N.r1 (RV.tmp rfl RV.nil) (L' := rjP b n s ra rc vs.length f lg room :: roM M1 :: L0) (by repeat (first | exact Ent.refl _ | exact Ent.nil | refine Ent.pick ?_ | refine Ent.nilS ?_ | refine Ent.nilM ?_ | refine Ent.drop ?_)) ⟨congrArg (Value.int .i64) (by omega), M1, hl1, rfl⟩
theorem YB_one (xs : List YB) : (xs.flatMap YB.cells).all (·.oneCell') = true := by simp [YB.val, Value.oneCell']
def dpE (room : Int) (s : List UInt8) (R rs : List (List UInt8)) : Int := if ptC rs ≠ 0 then ptC rs else if rs = [] then 0 else if room < ((stP s).length + (frs R).length : Nat) + ((frs rs).length : Nat) then 8 else 0
structure DJ where
  n : Nat
  s : YB
  ra : Option Addr
  rc : Nat
  vs : List YB
  f : Nat
  lg : Bool
abbrev DJ.R (x : DJ) : List (List UInt8) := x.vs.map YB.bs
structure DJ.ok (M : Nat → Option Obj) (x : DJ) : Prop where
  s : okYM M x.s
  sc : x.s.bs.length ≤ x.s.c
  sl : x.s.bs.length ≤ 1000000
  v : SlM M x.ra x.vs.length 1 (x.vs.flatMap YB.cells)
  vo : okYs M x.vs
  vc : x.vs.length ≤ x.rc
  vl : (frs x.R).length ≤ 1000000
theorem DJ.ok.mono {M M' : Nat → Option Obj} {x : DJ} (h : x.ok M) (hl : leM M M') : x.ok M' := ⟨h.s.mono hl, h.sc, h.sl, h.v.mono hl, h.vo.mono hl, h.vc, h.vl⟩
theorem DJ.ok.len {M : Nat → Option Obj} {x : DJ} (h : x.ok M) : x.vs.length ≤ 1000000 := by
  have h1 := frsL_ge x.R
  have h2 := h.vl
  rw [← frs_len, List.length_map] at h1
  omega
abbrev djP (b : Nat) (x : DJ) (room : Int) : HP := rjP b x.n x.s x.ra x.rc x.vs.length x.f x.lg room
set_option maxHeartbeats 4000000 in
theorem DPut_spec (b : Nat) (x : DJ) (room : Int) (a : Option Addr) (c : Nat) (us : List YB) (M : Nat → Option Obj) (L0 : List HP) (hx : x.ok M) (h : SlM M a us.length 1 (us.flatMap YB.cells)) (hok : okYs M us) (hsm : ∀ u ∈ us, u.bs.length ≤ 4096) (hl : (frs (us.map YB.bs)).length ≤ 100000) (hroom : 0 ≤ room ∧ room ≤ 1000000) :
    CallsS Tryz.prog 33 [ptrD b, .slice a us.length c] (djP b x room :: roM M :: L0) (fun r L' => r = .int .i64 (dpE room x.s.bs x.R (us.map YB.bs)) ∧ ∃ M' x', leM M M' ∧ x'.ok M' ∧ x'.n = x.n ∧ x'.s = x.s ∧ x'.f = x.f ∧ x'.R = (if dpE room x.s.bs x.R (us.map YB.bs) = 0 then x.R ++ us.map YB.bs else x.R) ∧ L' = djP b x' room :: roM M' :: L0) := by
  refine CallsS.of_body Tryz.func33 rfl rfl rfl ?_
  have hul := frsL_ge (us.map YB.bs)
  rw [← frs_len, List.length_map] at hul
  have hst := stP_len x.s.bs
  have hxs := hx.sl
  have hxl : (frs (x.vs.map YB.bs)).length ≤ 1000000 := hx.vl
  have hxn := hx.len
  refine Q.r ?_; (repeat (intro b1; refine Q.r ?_))
  refine swp_cutB (σ := Unit) (fun _ => [(0, ptrD b), (1, .slice a us.length c), (5, .bool false)]) (fun _ => djP b x room :: roM M :: L0) (fun _ => ∀ v ∈ us, v.bs.length ≠ 0) ?_ ?_
  · refine swp_loop (σ := Nat) (fun k => [(0, ptrD b), (1, .slice a us.length c), (8, .slice a us.length c), (9, .int .i64 us.length), (5, .bool false), (10, .int .i64 k)]) (fun _ => djP b x room :: roM M :: L0) (fun k => k ≤ us.length ∧ ∀ v ∈ us.take k, v.bs.length ≠ 0) (fun k => us.length - k) 0 ⟨rfl, rfl, rfl, rfl, rfl, rfl, trivial⟩ (Ent.refl _) ⟨Nat.zero_le _, fun v hv => by simp at hv⟩ ?_
    rintro k ⟨hk, hne⟩
    by_cases hlt : k < us.length
    · obtain ⟨v, hv⟩ := mem_get hlt
      obtain ⟨b2, o, rfl, hr⟩ := SlM.cm (g := YB.cells) (fun _ => rfl) h hv rfl
      have hvm := List.mem_of_getElem? hv
      have hvs := hsm v hvm
      by_cases hv0 : v.bs.length = 0
      · have hpt : ptC (us.map YB.bs) = 2 := if_pos ⟨v.bs, List.mem_map_of_mem hvm, hv0⟩
        have hdp : dpE room x.s.bs x.R (us.map YB.bs) = 2 := by unfold dpE; rw [hpt, if_pos (by decide)]
        rw [hdp]
        refine Q.r ?_; (repeat (intro b1; refine Q.r ?_))
        exact N.r1 (RV.tmp rfl RV.nil) (Ent.refl _) ⟨rfl, M, x, leM.refl _, hx, rfl, rfl, rfl, by rw [if_neg (by decide)], rfl⟩
      · have hvs' : ¬ (4096 : Int) < (v.bs.length : Int) := by omega
        refine Q.r ?_; (repeat (intro b1; refine Q.r ?_))
        refine ⟨k + 1, ⟨rfl, rfl, rfl, rfl, by rw [decide_eq_false hvs']; rfl, rfl, trivial⟩, Ent.refl _, ⟨hlt, fun w hw => ?_⟩, by omega⟩
        rw [take_snoc hv] at hw
        rcases List.mem_append.1 hw with hw | hw
        · exact hne w hw
        · rw [List.mem_singleton.1 hw]; exact hv0
    · have hke : k = us.length := by omega
      subst hke
      rw [List.take_length] at hne
      refine Q.r ?_; (repeat (intro b1; refine Q.r ?_))
      exact ⟨(), ⟨rfl, rfl, rfl, trivial⟩, Ent.refl _, hne⟩
  · intro _ hne
    have hpt : ptC (us.map YB.bs) = 0 := ptC_ok (fun r hr => by
      obtain ⟨v, hv, rfl⟩ := List.mem_map.1 hr
      exact ⟨hsm v hv, hne v hv⟩)
    by_cases h0 : us.length = 0
    · have hdp : dpE room x.s.bs x.R (us.map YB.bs) = 0 := by unfold dpE; rw [hpt, if_neg (by decide), if_pos (by rw [List.length_eq_zero_iff.1 h0]; rfl)]
      rw [hdp]
      refine Q.r ?_; (repeat (intro b1; refine Q.r ?_))
      exact N.r1 (RV.tmp rfl RV.nil) (Ent.refl _) ⟨rfl, M, x, leM.refl _, hx, rfl, rfl, rfl, by rw [if_pos rfl, List.length_eq_zero_iff.1 h0, List.map_nil, List.append_nil], rfl⟩
    · have hdp : dpE room x.s.bs x.R (us.map YB.bs) = if room < ((stP x.s.bs).length + (frs x.R).length : Nat) + ((frs (us.map YB.bs)).length : Nat) then 8 else 0 := by
        unfold dpE
        rw [hpt, if_neg (by decide), if_neg (fun hh => h0 (by rw [← List.length_map (f := YB.bs), hh]; rfl))]
      rw [hdp]
      refine Q.r ?_; (repeat (intro b1; refine Q.r ?_))
      refine Q.dgo [true] [1, 3] [] [0, 2, 5, 6, 7, 8, 1, 3, 4, 9] ?_
      repeat (first | refine D.endA ?_ | refine Q.dp rfl rfl rfl ?_ | refine Q.dy rfl rfl rfl ?_ | refine D.end_ ?_ | refine Q.endH ?_ | (refine D.e rfl rfl rfl ?_; (first | refine S.gskip1 rfl ?_ | refine S.gskip rfl ?_ | refine S.y (Y.gskipU rfl) ?_); refine opsS_nil ?_; refine N.tn ?_))
      refine D.ea rfl rfl rfl ?_
      refine opsS_ent (L' := djP b x room :: roM M :: L0) (by repeat (first | exact Ent.refl _ | exact Ent.nil | refine Ent.pick ?_ | refine Ent.nilS ?_ | refine Ent.nilM ?_ | refine Ent.drop ?_)) ?_
      refine S.cr rfl (RUsed_spec b x.n x.s x.ra x.rc x.f x.lg room x.vs M _ hx.s hx.sc hx.sl hx.v (by omega)) ?_
      rintro _ _ ⟨rfl, M1, hl1, rfl⟩
      refine opsS_nil ?_; refine N.tn ?_; refine D.back ?_
      repeat (first | refine D.endA ?_ | refine Q.dp rfl rfl rfl ?_ | refine Q.dy rfl rfl rfl ?_ | refine D.end_ ?_ | refine Q.endH ?_ | (refine D.e rfl rfl rfl ?_; (first | refine S.gskip1 rfl ?_ | refine S.gskip rfl ?_ | refine S.y (Y.gskipU rfl) ?_); refine opsS_nil ?_; refine N.tn ?_))
      refine D.e rfl rfl rfl ?_
      refine S.cr rfl (RBytes_spec a c us M1 _ (h.mono hl1) (by omega)) ?_
      rintro _ _ ⟨rfl, rfl⟩
      refine Q.r ?_; (repeat (intro b1; refine Q.r ?_))
      repeat (first | refine D.endA ?_ | refine Q.dp rfl rfl rfl ?_ | refine Q.dy rfl rfl rfl ?_ | refine D.end_ ?_ | refine Q.endH ?_ | (refine D.e rfl rfl rfl ?_; (first | refine S.gskip1 rfl ?_ | refine S.gskip rfl ?_ | refine S.y (Y.gskipU rfl) ?_); refine opsS_nil ?_; refine N.tn ?_))
      by_cases hf : room < ((stP x.s.bs).length + (frs x.R).length : Nat) + ((frs (us.map YB.bs)).length : Nat)
      · rw [if_pos hf]
        have hf' : room < ((stP x.s.bs).length + (frs (x.vs.map YB.bs)).length : Nat) + ((frs (us.map YB.bs)).length : Nat) := hf
        refine Q.r ?_; (repeat (intro b1; refine Q.r ?_))
        exact N.r1 (RV.tmp rfl RV.nil) (L' := djP b x room :: roM M1 :: L0) (by repeat (first | exact Ent.refl _ | exact Ent.nil | refine Ent.pick ?_ | refine Ent.nilS ?_ | refine Ent.nilM ?_ | refine Ent.drop ?_)) ⟨rfl, M1, x, hl1, hx.mono hl1, rfl, rfl, rfl, by rw [if_neg (by decide)], rfl⟩
      · rw [if_neg hf]
        have hf' : ¬ room < ((stP x.s.bs).length + (frs (x.vs.map YB.bs)).length : Nat) + ((frs (us.map YB.bs)).length : Nat) := hf
        refine Q.r ?_; (repeat (intro b1; refine Q.r ?_))
        refine opsS_ent (slO_fold (sz := 1) (m := 0) rfl) ?_
        refine S.app0 rfl rfl rfl (SrcS.rd (SlM.rd (hx.v.mono hl1)) (YB_one _)) (by rfl) (by omega) (by omega) (fun a5 c5 => ?_)
        refine Q.r ?_; (repeat (intro b1; refine Q.r ?_))
        refine S.app rfl rfl (SrcS.rd (SlM.rd (h.mono hl1)) (YB_one _)) (by rfl) (by omega) (by omega) (fun a6 c6 => ?_)
        rw [← List.flatMap_append, show x.vs.length + us.length = (x.vs ++ us).length by rw [List.length_append]]
        refine opsS_absc a6 (fun M2 hl2 hs2 hc2 => ?_)
        refine Q.r ?_; (repeat (intro b1; refine Q.r ?_))
        refine N.r1 (RV.tmp rfl RV.nil) (L' := djP b { x with ra := a6, rc := c6, vs := x.vs ++ us, lg := true } room :: roM M2 :: L0) (by repeat (first | exact Ent.refl _ | exact Ent.nil | refine Ent.pick ?_ | refine Ent.nilS ?_ | refine Ent.nilM ?_ | refine Ent.drop ?_)) ⟨rfl, M2, { x with ra := a6, rc := c6, vs := x.vs ++ us, lg := true }, hl1.trans hl2, ⟨(hx.s.mono hl1).mono hl2, hx.sc, hx.sl, hs2, fun v hv => ?_, hc2, ?_⟩, rfl, rfl, rfl, ?_, rfl⟩
        · rcases List.mem_append.1 hv with hv | hv
          · exact (hx.vo.mono (hl1.trans hl2)) v hv
          · exact (hok.mono (hl1.trans hl2)) v hv
        · show (frs ((x.vs ++ us).map YB.bs)).length ≤ 1000000
          rw [List.map_append, frs_app, List.length_append]
          have : (((stP x.s.bs).length + (frs (x.vs.map YB.bs)).length : Nat) : Int) + ((frs (us.map YB.bs)).length : Nat) ≤ room := by omega
          omega
        · rw [if_pos rfl]; exact List.map_append
end Go.Proofs.YtkleenllkjodoaaGreatDoor
namespace Go.Proofs.YtkleenllkjodoaaGreatDoor
open Go Go.SX
attribute [local irreducible] swp opsS thenS blockS retS CallsS St Ent YieldS anyS drawS
theorem ptC_okRc {rs : List (List UInt8)} (h : ptC rs = 0) : okRc rs := by
  unfold ptC at h
  split at h
  · cases h
  · next h0 =>
    unfold cdL at h
    split at h
    · cases h
    · next h1 => exact fun x hx => ⟨Nat.le_of_not_lt fun hh => h1 ⟨x, hx, hh⟩, fun hh => h0 ⟨x, hx, hh⟩⟩
end Go.Proofs.YtkleenllkjodoaaGreatDoor
namespace Go.Proofs.YtkleenllkjodoaaGreatDoor
open Go Go.SX
attribute [local irreducible] swp opsS thenS blockS retS CallsS St Ent YieldS anyS drawS
theorem few_len {us vs : List YB} {n size : Nat} (h : us.map YB.bs = (vs.take n).map (fun v => v.bs.take size)) : us.length ≤ n ∧ ∀ u ∈ us, u.bs.length ≤ size := by
  refine ⟨?_, fun u hu => ?_⟩
  · have := congrArg List.length h
    rw [List.length_map, List.length_map, List.length_take] at this; omega
  · have : u.bs ∈ us.map YB.bs := List.mem_map_of_mem hu
    rw [h] at this
    obtain ⟨v, _, hv⟩ := List.mem_map.1 this
    rw [← hv, List.length_take]; omega
theorem okRc_le {R : List (List UInt8)} {n : Nat} (h : ∀ r ∈ R, r.length ≤ n) (hn : R.length ≤ 8) (hn2 : n ≤ 300) : (frs R).length ≤ 2448 := by
  have := frs_le h
  have h2 : R.length * (6 + n) ≤ 8 * 306 := Nat.mul_le_mul hn (by omega)
  omega
theorem old_has {room : Int} {n k : Nat} {s : List UInt8} {lg : Option (List UInt8 × Nat)} (hk : lg.isSome = decide (0 < k)) : ∀ m ∈ oldJ ⟨dJ room n s lg, n, k, false⟩, hasD (dJ room n s lg) m := by
  intro m hm
  unfold oldJ at hm
  rcases List.mem_cons.1 hm with rfl | hm
  · unfold hasD; rw [lkJc]; simp
  · split at hm
    · next h0 =>
      rw [List.mem_singleton.1 hm]
      unfold hasD; rw [lkJl]
      intro h
      rw [h, decide_eq_true h0] at hk; cases hk
    · cases hm
theorem new_no {room : Int} {n : Nat} {s : List UInt8} {lg : Option (List UInt8 × Nat)} (hn : n + 1 < 100) : ¬ hasD (dJ room n s lg) (nm 99 (n + 1)) := fun h => h (lkL_none (fJ_c hn s lg))
end Go.Proofs.YtkleenllkjodoaaGreatDoor
namespace Go.Proofs.YtkleenllkjodoaaGreatDoor
open Go Go.SX
attribute [local irreducible] swp opsS thenS blockS retS CallsS St Ent YieldS anyS drawS
def dsE (room : Int) (s : List UInt8) (R : List (List UInt8)) (s' : List UInt8) : Int := if room < ((stP s).length + (frs R).length : Nat) + ((stP s').length : Nat) then 8 else 0
set_option maxHeartbeats 4000000 in
theorem DSave_spec (b : Nat) (x : DJ) (room : Int) (u : YB) (M : Nat → Option Obj) (L0 : List HP) (hx : x.ok M) (hn : x.n ≤ 1000000) (hu : okYM M u) (huc : u.bs.length ≤ u.c) (hul : u.bs.length ≤ 100000) (hroom : 0 ≤ room ∧ room ≤ 1000000) :
    CallsS Tryz.prog 32 [ptrD b, u.val] (djP b x room :: roM M :: L0) (fun r L' => r = .int .i64 (dsE room x.s.bs x.R u.bs) ∧ ∃ M' x', leM M M' ∧ x'.ok M' ∧ (dsE room x.s.bs x.R u.bs = 0 → x'.n = x.n + 1 ∧ x'.s.bs = u.bs ∧ x'.vs = [] ∧ x'.f = 0) ∧ (dsE room x.s.bs x.R u.bs ≠ 0 → x' = x) ∧ L' = djP b x' room :: roM M' :: L0) := by
  refine CallsS.of_body Tryz.func32 rfl rfl rfl ?_
  have hst := stP_len x.s.bs
  have hst2 := stP_len u.bs
  have hxs := hx.sl
  have hxl : (frs (x.vs.map YB.bs)).length ≤ 1000000 := hx.vl
  refine Q.r ?_; (repeat (intro b1; refine Q.r ?_))
  refine Q.dgo [true] [1, 3] [] [0, 2, 6, 7, 8, 9, 1, 3, 4, 5, 10] ?_
  repeat (first | refine D.endA ?_ | refine Q.dp rfl rfl rfl ?_ | refine Q.dy rfl rfl rfl ?_ | refine D.end_ ?_ | refine Q.endH ?_ | (refine D.e rfl rfl rfl ?_; (first | refine S.gskip1 rfl ?_ | refine S.gskip rfl ?_ | refine S.y (Y.gskipU rfl) ?_); refine opsS_nil ?_; refine N.tn ?_))
  refine D.ea rfl rfl rfl ?_
  refine opsS_ent (L' := djP b x room :: roM M :: L0) (by repeat (first | exact Ent.refl _ | exact Ent.nil | refine Ent.pick ?_ | refine Ent.nilS ?_ | refine Ent.nilM ?_ | refine Ent.drop ?_)) ?_
  refine S.cr rfl (RUsed_spec b x.n x.s x.ra x.rc x.f x.lg room x.vs M _ hx.s hx.sc hx.sl hx.v (by omega)) ?_
  rintro _ _ ⟨rfl, M1, hl1, rfl⟩
  refine opsS_nil ?_; refine N.tn ?_; refine D.back ?_
  repeat (first | refine D.endA ?_ | refine Q.dp rfl rfl rfl ?_ | refine Q.dy rfl rfl rfl ?_ | refine D.end_ ?_ | refine Q.endH ?_ | (refine D.e rfl rfl rfl ?_; (first | refine S.gskip1 rfl ?_ | refine S.gskip rfl ?_ | refine S.y (Y.gskipU rfl) ?_); refine opsS_nil ?_; refine N.tn ?_))
  refine D.e rfl rfl rfl ?_
  refine S.cr rfl (RState_spec u M1 _ (hu.mono hl1) huc (by omega)) ?_
  rintro _ _ ⟨v, M2, rfl, hv, hvo, hvc, hl2, rfl⟩
  have hvl : v.bs.length = (stP u.bs).length := by rw [hv]
  refine Q.r ?_; (repeat (intro b1; refine Q.r ?_))
  repeat (first | refine D.endA ?_ | refine Q.dp rfl rfl rfl ?_ | refine Q.dy rfl rfl rfl ?_ | refine D.end_ ?_ | refine Q.endH ?_ | (refine D.e rfl rfl rfl ?_; (first | refine S.gskip1 rfl ?_ | refine S.gskip rfl ?_ | refine S.y (Y.gskipU rfl) ?_); refine opsS_nil ?_; refine N.tn ?_))
  by_cases hf : room < ((stP x.s.bs).length + (frs x.R).length : Nat) + ((stP u.bs).length : Nat)
  · have hd : dsE room x.s.bs x.R u.bs = 8 := if_pos hf
    have hf' : room < ((stP x.s.bs).length + (frs (x.vs.map YB.bs)).length : Nat) + (v.bs.length : Int) := by rw [hvl]; exact hf
    rw [hd]
    refine Q.r ?_; (repeat (intro b1; refine Q.r ?_))
    exact N.r1 (RV.tmp rfl RV.nil) (L' := djP b x room :: roM M2 :: L0) (by repeat (first | exact Ent.refl _ | exact Ent.nil | refine Ent.pick ?_ | refine Ent.nilS ?_ | refine Ent.nilM ?_ | refine Ent.drop ?_)) ⟨rfl, M2, x, hl1.trans hl2, hx.mono (hl1.trans hl2), fun h => absurd h (by decide), fun _ => rfl, rfl⟩
  · have hd : dsE room x.s.bs x.R u.bs = 0 := if_neg hf
    have hf' : ¬ room < ((stP x.s.bs).length + (frs (x.vs.map YB.bs)).length : Nat) + (v.bs.length : Int) := by rw [hvl]; exact hf
    rw [hd]
    refine Q.r ?_; (repeat (intro b1; refine Q.r ?_))
    refine Q.dgo [true] [11, 14, 17, 20, 23, 26] [14] [0, 1, 2, 3, 4, 5, 6, 7, 8, 9, 10, 11, 12, 13, 14, 15, 16, 17, 18, 19, 20, 21, 22, 23, 24, 25, 26] ?_
    repeat (first | refine D.endA ?_ | refine Q.dp rfl rfl rfl ?_ | refine Q.dy rfl rfl rfl ?_ | refine D.end_ ?_ | refine Q.endH ?_ | (refine D.e rfl rfl rfl ?_; (first | refine S.gskip1 rfl ?_ | refine S.gskip rfl ?_ | refine S.y (Y.gskipU rfl) ?_); refine opsS_nil ?_; refine N.tn ?_))
    refine D.e rfl rfl rfl ?_
    refine S.cr rfl (RCopyM_spec u M2 _ _ ((hu.mono (hl1.trans hl2)).rd) huc (by omega)) ?_
    rintro _ _ ⟨w, M3, rfl, hw, hwo, hwc, hl3, rfl⟩
    refine Q.r ?_; (repeat (intro b1; refine Q.r ?_))
    repeat (first | refine D.endA ?_ | refine Q.dp rfl rfl rfl ?_ | refine Q.dy rfl rfl rfl ?_ | refine D.end_ ?_ | refine Q.endH ?_ | (refine D.e rfl rfl rfl ?_; (first | refine S.gskip1 rfl ?_ | refine S.gskip rfl ?_ | refine S.y (Y.gskipU rfl) ?_); refine opsS_nil ?_; refine N.tn ?_))
    refine Q.dc rfl rfl rfl rfl ?_
    refine Q.r ?_; (repeat (intro b1; refine Q.r ?_))
    refine Q.rd ?_; (repeat (intro b1; refine Q.rd ?_))
    refine Q.r ?_; (repeat (intro b1; refine Q.r ?_))
    exact N.r1 (RV.tmp rfl RV.nil) (L' := djP b ⟨x.n + 1, w, none, 0, [], 0, false⟩ room :: roM M3 :: L0) (by repeat (first | exact Ent.refl _ | exact Ent.nil | refine Ent.pick ?_ | refine Ent.nilS ?_ | refine Ent.nilM ?_ | refine Ent.drop ?_)) ⟨rfl, M3, ⟨x.n + 1, w, none, 0, [], 0, false⟩, hl1.trans (hl2.trans hl3), ⟨hwo, hwc, by dsimp only; rw [hw]; omega, SlM.nil, (fun v hv => by cases hv), Nat.le_refl _, Nat.zero_le _⟩, fun _ => ⟨rfl, hw, rfl, rfl⟩, fun h => absurd rfl h, rfl⟩
set_option maxHeartbeats 1000000 in
def djM (M : Nat → Option Obj) (b : Nat) (x : DJ) (room : Int) : Prop := SlM M (some ⟨b, 0, none⟩) 6 1 [.int .i64 x.n, x.s.val, .slice x.ra x.vs.length x.rc, .int .i64 x.f, .bool x.lg, .int .i64 room]
theorem djM.mono {M M' : Nat → Option Obj} {b : Nat} {x : DJ} {room : Int} (h : djM M b x room) (hl : leM M M') : djM M' b x room := SlM.mono h hl
theorem djM.rd {M : Nat → Option Obj} {b : Nat} {x : DJ} {room : Int} (h : djM M b x room) {L : List HP} [HasM M L] : RdC L b 0 [.int .i64 x.n, x.s.val, .slice x.ra x.vs.length x.rc, .int .i64 x.f, .bool x.lg, .int .i64 room] := by
  have h1 : RdS L (some ⟨b, 0, none⟩) 6 1 _ := SlM.rd h
  rcases h1.2 with h2 | ⟨b', o', e, r⟩
  · cases h2
  · cases e; exact r
set_option maxHeartbeats 2000000 in
theorem DCopy_spec (b : Nat) (x : DJ) (room : Int) (M : Nat → Option Obj) (L0 : List HP) (hb : djM M b x room) (hx : x.ok M) :
    CallsS Tryz.prog 28 [ptrD b] (roM M :: L0) (fun r L' => ∃ b' x' M', r = ptrD b' ∧ leM M M' ∧ x'.ok M' ∧ x'.n = x.n ∧ x'.s = x.s ∧ x'.vs = x.vs ∧ x'.f = x.f ∧ L' = djP b' x' room :: roM M' :: L0) := by
  refine CallsS.of_body Tryz.func28 rfl rfl rfl ?_
  have hxn := hx.len
  have hr := hb.rd (L := roM M :: L0)
  have hr0 := hb.rd (L := [roM M])
  refine Q.r ?_; (repeat (intro b1; refine Q.r ?_))
  refine S.y (Y.ldRj rfl hb.rd rfl) ?_
  refine opsS_ent (slO_fold (b := b1) (sz := 1) (m := 0) rfl) ?_
  refine S.app0 rfl rfl rfl (SrcS.rd (SlM.rd hx.v) (YB_one _)) (by rfl) (by omega) (by omega) (fun a5 c5 => ?_)
  refine opsS_absc a5 (fun M2 hl2 hs2 hc2 => ?_)
  rename_i b3
  refine Q.r ?_; (repeat (intro b1; refine Q.r ?_))
  refine N.r1 (RV.tmp rfl RV.nil) (L' := djP b3 { x with ra := a5, rc := c5 } room :: roM M2 :: L0) (by repeat (first | exact Ent.refl _ | exact Ent.nil | refine Ent.pick ?_ | refine Ent.nilS ?_ | refine Ent.nilM ?_ | refine Ent.drop ?_)) ⟨b3, { x with ra := a5, rc := c5 }, M2, rfl, hl2, ⟨hx.s.mono hl2, hx.sc, hx.sl, hs2, hx.vo.mono hl2, hc2, hx.vl⟩, rfl, rfl, rfl, rfl, rfl⟩
def fitD (x : DJ) (s : List UInt8) (R : List (List UInt8)) : Bool := decide (x.s.bs = s) && decide (x.f ≤ R.length) && decide (R.length ≤ x.vs.length) && decide (R = x.R.take R.length)
set_option maxHeartbeats 4000000 in
theorem fits_spec (b : Nat) (x : DJ) (room : Int) (sv : YB) (a : Option Addr) (c : Nat) (vs : List YB) (M : Nat → Option Obj) (L0 : List HP) (hb : djM M b x room) (hx : x.ok M) (hs : okYM M sv) (h : SlM M a vs.length 1 (vs.flatMap YB.cells)) (hv : okYs M vs) (hl : vs.length ≤ 1000000) :
    CallsS Tryz.prog 37 [ptrD b, .agg #[sv.val, .slice a vs.length c]] (roM M :: L0) (fun r L' => r = .bool (fitD x sv.bs (vs.map YB.bs)) ∧ L' = roM M :: L0) := by
  refine CallsS.of_body Tryz.func37 rfl rfl rfl ?_
  have hxn := hx.len
  have hr := hb.rd (L := roM M :: L0)
  have hr0 := hb.rd (L := [roM M])
  refine Q.r ?_; (repeat (intro b1; refine Q.r ?_))
  refine Q.dgo [true, true] [6] [] [0, 1, 2, 3, 4, 5, 6, 7, 8, 9, 10, 11, 12, 13, 14, 15, 16, 17, 18, 19, 20, 21, 22, 23, 24, 25, 26, 27, 28] ?_
  repeat (first | refine D.endA ?_ | refine Q.dp rfl rfl rfl ?_ | refine Q.dy rfl rfl rfl ?_ | refine D.end_ ?_ | refine Q.endH ?_ | (refine D.e rfl rfl rfl ?_; (first | refine S.gskip1 rfl ?_ | refine S.gskip rfl ?_ | refine S.y (Y.gskipU rfl) ?_); refine opsS_nil ?_; refine N.tn ?_))
  refine D.y rfl rfl rfl (by kernel_rfl) (Y.ldRj rfl hb.rd rfl) ?_
  repeat (first | refine D.endA ?_ | refine Q.dp rfl rfl rfl ?_ | refine Q.dy rfl rfl rfl ?_ | refine D.end_ ?_ | refine Q.endH ?_ | (refine D.e rfl rfl rfl ?_; (first | refine S.gskip1 rfl ?_ | refine S.gskip rfl ?_ | refine S.y (Y.gskipU rfl) ?_); refine opsS_nil ?_; refine N.tn ?_))
  refine D.ea rfl rfl rfl ?_
  refine S.cr rfl (YSame_spec x.s sv _ hx.s.rd hs.rd) ?_
  rintro _ _ ⟨rfl, rfl⟩
  refine opsS_nil ?_; refine N.tn ?_; refine D.back ?_
  by_cases c1 : x.s.bs = sv.bs
  · rw [decide_eq_true c1]
    repeat (first | refine D.endA ?_ | refine Q.dp rfl rfl rfl ?_ | refine Q.dy rfl rfl rfl ?_ | refine D.end_ ?_ | refine Q.endH ?_ | (refine D.e rfl rfl rfl ?_; (first | refine S.gskip1 rfl ?_ | refine S.gskip rfl ?_ | refine S.y (Y.gskipU rfl) ?_); refine opsS_nil ?_; refine N.tn ?_))
    refine D.y rfl rfl rfl (by kernel_rfl) (Y.guard rfl (Y.ldRj rfl hb.rd rfl)) ?_
    by_cases c2 : vs.length < x.f
    · have c2' : (vs.length : Int) < (x.f : Int) := by omega
      repeat (first | refine D.endA ?_ | refine Q.dp rfl rfl rfl ?_ | refine Q.dy rfl rfl rfl ?_ | refine D.end_ ?_ | refine Q.endH ?_ | (refine D.e rfl rfl rfl ?_; (first | refine S.gskip1 rfl ?_ | refine S.gskip rfl ?_ | refine S.y (Y.gskipU rfl) ?_); refine opsS_nil ?_; refine N.tn ?_))
      rw [decide_eq_true c2']
      repeat (first | refine D.endA ?_ | refine Q.dp rfl rfl rfl ?_ | refine Q.dy rfl rfl rfl ?_ | refine D.end_ ?_ | refine Q.endH ?_ | (refine D.e rfl rfl rfl ?_; (first | refine S.gskip1 rfl ?_ | refine S.gskip rfl ?_ | refine S.y (Y.gskipU rfl) ?_); refine opsS_nil ?_; refine N.tn ?_))
      refine Q.r ?_; (repeat (intro b1; refine Q.r ?_))
      refine N.r1 (RV.tmp rfl RV.nil) (Ent.drop (Ent.refl _)) ⟨?_, rfl⟩
      unfold fitD
      rw [decide_eq_false (show ¬ x.f ≤ (vs.map YB.bs).length by rw [List.length_map]; omega)]
      simp
    have c2' : ¬ (vs.length : Int) < (x.f : Int) := by omega
    repeat (first | refine D.endA ?_ | refine Q.dp rfl rfl rfl ?_ | refine Q.dy rfl rfl rfl ?_ | refine D.end_ ?_ | refine Q.endH ?_ | (refine D.e rfl rfl rfl ?_; (first | refine S.gskip1 rfl ?_ | refine S.gskip rfl ?_ | refine S.y (Y.gskipU rfl) ?_); refine opsS_nil ?_; refine N.tn ?_))
    rw [decide_eq_false c2']
    repeat (first | refine D.endA ?_ | refine Q.dp rfl rfl rfl ?_ | refine Q.dy rfl rfl rfl ?_ | refine D.end_ ?_ | refine Q.endH ?_ | (refine D.e rfl rfl rfl ?_; (first | refine S.gskip1 rfl ?_ | refine S.gskip rfl ?_ | refine S.y (Y.gskipU rfl) ?_); refine opsS_nil ?_; refine N.tn ?_))
    refine D.y rfl rfl rfl (by kernel_rfl) (Y.guard rfl (Y.ldRj rfl hb.rd rfl)) ?_
    by_cases c3 : x.vs.length < vs.length
    · have c3' : (x.vs.length : Int) < (vs.length : Int) := by omega
      repeat (first | refine D.endA ?_ | refine Q.dp rfl rfl rfl ?_ | refine Q.dy rfl rfl rfl ?_ | refine D.end_ ?_ | refine Q.endH ?_ | (refine D.e rfl rfl rfl ?_; (first | refine S.gskip1 rfl ?_ | refine S.gskip rfl ?_ | refine S.y (Y.gskipU rfl) ?_); refine opsS_nil ?_; refine N.tn ?_))
      rw [decide_eq_true c3']
      refine Q.r ?_; (repeat (intro b1; refine Q.r ?_))
      refine N.r1 (RV.tmp rfl RV.nil) (Ent.drop (Ent.refl _)) ⟨?_, rfl⟩
      unfold fitD
      rw [decide_eq_false (show ¬ (vs.map YB.bs).length ≤ x.vs.length by rw [List.length_map]; omega)]
      simp
    have c3' : ¬ (x.vs.length : Int) < (vs.length : Int) := by omega
    repeat (first | refine D.endA ?_ | refine Q.dp rfl rfl rfl ?_ | refine Q.dy rfl rfl rfl ?_ | refine D.end_ ?_ | refine Q.endH ?_ | (refine D.e rfl rfl rfl ?_; (first | refine S.gskip1 rfl ?_ | refine S.gskip rfl ?_ | refine S.y (Y.gskipU rfl) ?_); refine opsS_nil ?_; refine N.tn ?_))
    rw [decide_eq_false c3']
    refine Q.r ?_; (repeat (intro b1; refine Q.r ?_))
    refine Q.dgo [true, true] [10] [] [0, 1, 2, 3, 4, 5, 6, 7, 8, 9, 10, 11] ?_
    repeat (first | refine D.endA ?_ | refine Q.dp rfl rfl rfl ?_ | refine Q.dy rfl rfl rfl ?_ | refine D.end_ ?_ | refine Q.endH ?_ | (refine D.e rfl rfl rfl ?_; (first | refine S.gskip1 rfl ?_ | refine S.gskip rfl ?_ | refine S.y (Y.gskipU rfl) ?_); refine opsS_nil ?_; refine N.tn ?_))
    refine D.y rfl rfl rfl (by kernel_rfl) (Y.ldRj rfl hb.rd rfl) ?_
    repeat (first | refine D.endA ?_ | refine Q.dp rfl rfl rfl ?_ | refine Q.dy rfl rfl rfl ?_ | refine D.end_ ?_ | refine Q.endH ?_ | (refine D.e rfl rfl rfl ?_; (first | refine S.gskip1 rfl ?_ | refine S.gskip rfl ?_ | refine S.y (Y.gskipU rfl) ?_); refine opsS_nil ?_; refine N.tn ?_))
    have htl : (x.vs.take vs.length).length = vs.length := by rw [List.length_take]; omega
    refine D.yp rfl rfl rfl (Y.slT (h := (x.vs.take vs.length).length) rfl rfl (by rw [htl]) (by have := hx.vc; omega)) ?_
    refine D.ea rfl rfl rfl ?_
    refine opsS_ent (L' := roM M :: pt b1 (cl [sv.val, .slice a vs.length c] 37) :: L0) (by repeat (first | exact Ent.refl _ | exact Ent.nil | refine Ent.pick ?_ | refine Ent.nilS ?_ | refine Ent.nilM ?_ | refine Ent.drop ?_)) ?_
    have htk : SlM M x.ra (x.vs.take vs.length).length 1 ((x.vs.take vs.length).flatMap YB.cells) := by
      have := SlM.take hx.v (k := vs.length) (by omega)
      rw [flat_take (sz := 1) (fun _ => rfl)] at this
      rw [htl]
      exact this
    refine S.cr rfl (Same6_spec a x.ra c x.rc vs (x.vs.take vs.length) M _ h hv htk (fun v hv => hx.vo v (List.mem_of_mem_take hv)) (by omega)) ?_
    rintro _ _ ⟨rfl, rfl⟩
    refine opsS_nil ?_; refine N.tn ?_; refine D.back ?_
    repeat (first | refine D.endA ?_ | refine Q.dp rfl rfl rfl ?_ | refine Q.dy rfl rfl rfl ?_ | refine D.end_ ?_ | refine Q.endH ?_ | (refine D.e rfl rfl rfl ?_; (first | refine S.gskip1 rfl ?_ | refine S.gskip rfl ?_ | refine S.y (Y.gskipU rfl) ?_); refine opsS_nil ?_; refine N.tn ?_))
    refine Q.r ?_; (repeat (intro b1; refine Q.r ?_))
    refine N.r1 (RV.tmp rfl RV.nil) (L' := roM M :: L0) (by repeat (first | exact Ent.refl _ | exact Ent.nil | refine Ent.pick ?_ | refine Ent.nilS ?_ | refine Ent.nilM ?_ | refine Ent.drop ?_)) ⟨?_, rfl⟩
    unfold fitD DJ.R
    rw [decide_eq_true c1, decide_eq_true (show x.f ≤ (vs.map YB.bs).length by rw [List.length_map]; omega), decide_eq_true (show (vs.map YB.bs).length ≤ x.vs.length by rw [List.length_map]; omega), List.length_map, List.map_take]
    rfl
  · rw [decide_eq_false c1]
    repeat (first | refine D.endA ?_ | refine Q.dp rfl rfl rfl ?_ | refine Q.dy rfl rfl rfl ?_ | refine D.end_ ?_ | refine Q.endH ?_ | (refine D.e rfl rfl rfl ?_; (first | refine S.gskip1 rfl ?_ | refine S.gskip rfl ?_ | refine S.y (Y.gskipU rfl) ?_); refine opsS_nil ?_; refine N.tn ?_))
    refine Q.r ?_; (repeat (intro b1; refine Q.r ?_))
    refine N.r1 (RV.tmp rfl RV.nil) (Ent.drop (Ent.refl _)) ⟨?_, rfl⟩
    unfold fitD
    rw [decide_eq_false c1]
    simp
def stateF (vs : List YB) : List UInt8 := ((vs.take 4).map fun v => v.bs.take 3000).flatten
theorem stateF_len (vs : List YB) : (stateF vs).length ≤ 12000 := by
  unfold stateF
  rw [List.length_flatten, List.map_map]
  have : ∀ l : List YB, (l.map (List.length ∘ fun v : YB => v.bs.take 3000)).sum ≤ l.length * 3000 := by
    intro l
    induction l with
    | nil => exact Nat.zero_le _
    | cons v l ih =>
      rw [List.map_cons, List.sum_cons, List.length_cons, Nat.succ_mul]
      have : (List.length ∘ fun v : YB => v.bs.take 3000) v ≤ 3000 := by show (v.bs.take 3000).length ≤ 3000; rw [List.length_take]; omega
      omega
  have h1 := this (vs.take 4)
  have h2 : (vs.take 4).length ≤ 4 := by rw [List.length_take]; omega
  have := Nat.mul_le_mul_right 3000 h2
  omega
set_option maxHeartbeats 2000000 in
theorem state_spec (d k : Value) (a : Option Addr) (c : Nat) (vs : List YB) (M : Nat → Option Obj) (L0 : List HP) (hd : d.oneCell' = true) (hk : k.oneCell' = true) (h : SlM M a vs.length 1 (vs.flatMap YB.cells)) (hok : okYs M vs) (hl : vs.length ≤ 9223372036854775807) :
    CallsS Tryz.prog 31 [.agg #[d, .slice a vs.length c, k]] (roM M :: L0) (cpR M L0 (stateF vs)) := by
  refine CallsS.of_body Tryz.func31 rfl rfl rfl ?_
  refine Q.r ?_; (repeat (intro b1; refine Q.r ?_))
  refine opsS_ent (L' := roM M :: pt b1 (cl [d, .slice a vs.length c, k] 62) :: L0) (by repeat (first | exact Ent.refl _ | exact Ent.nil | refine Ent.pick ?_ | refine Ent.nilS ?_ | refine Ent.nilM ?_ | refine Ent.drop ?_)) ?_
  refine S.cr rfl (Few6_spec a c vs 4 3000 M _ h hok (by decide) (by decide) hl) ?_
  rintro _ _ ⟨a4, c4, rfl, us, M4, hus, huo, hl4, rfl⟩
  obtain ⟨hu1, hu2⟩ := few_len hus
  have hst : stateF vs = (us.map YB.bs).flatten := by rw [hus]; rfl
  rw [← hus, List.length_map]
  refine opsS_absc a4 (fun M5 hl5 hs5 hc5 => ?_)
  refine Q.r ?_; (repeat (intro b1; refine Q.r ?_))
  refine swp_cutB (σ := Option Addr × Nat) (fun s => [(3, .slice s.1 (stateF vs).length s.2)]) (fun s => slO 5 1 s.1 (stateF vs).length s.2 ((stateF vs).map B) :: roM M5 :: L0) (fun _ => True) ?_ ?_
  · refine swp_loop (σ := Nat × Option Addr × Nat) (fun s => [(8, .slice a4 us.length c4), (9, .int .i64 us.length), (3, .slice s.2.1 (((us.take s.1).map YB.bs).flatten).length s.2.2), (10, .int .i64 s.1)])
      (fun s => slO 5 1 s.2.1 (((us.take s.1).map YB.bs).flatten).length s.2.2 ((((us.take s.1).map YB.bs).flatten).map B) :: roM M5 :: L0) (fun s => s.1 ≤ us.length) (fun s => us.length - s.1) (0, none, 0) ⟨rfl, rfl, rfl, rfl, trivial⟩ (Ent.trans (M := roM M5 :: L0) (by repeat (first | exact Ent.refl _ | exact Ent.nil | refine Ent.pick ?_ | refine Ent.nilS ?_ | refine Ent.nilM ?_ | refine Ent.drop ?_)) slO_nil) (Nat.zero_le _) ?_
    rintro ⟨i, a1, c1⟩ hi
    dsimp only at hi ⊢
    by_cases hlt : i < us.length
    · obtain ⟨v, hv⟩ := mem_get hlt
      obtain ⟨b2, o, rfl, hr⟩ := SlM.cm (g := YB.cells) (fun _ => rfl) hs5 hv rfl
      have hvm := List.mem_of_getElem? hv
      have hvl := hu2 v hvm
      have hsn : ((us.take (i + 1)).map YB.bs).flatten = ((us.take i).map YB.bs).flatten ++ v.bs := by rw [take_snoc hv, List.map_append, List.flatten_append]; simp
      have hll : (((us.take i).map YB.bs).flatten).length ≤ 12000 := by
        have h1 := stateF_len vs
        rw [hst] at h1
        have h2 : (us.map YB.bs).flatten = ((us.take i).map YB.bs).flatten ++ ((us.drop i).map YB.bs).flatten := by rw [← List.flatten_append, ← List.map_append, List.take_append_drop]
        rw [h2, List.length_append] at h1
        omega
      generalize ((us.take i).map YB.bs).flatten = acc at hsn hll
      refine Q.r ?_; (repeat (intro b1; refine Q.r ?_))
      refine S.app rfl rfl (SrcS.rd ((huo.mono hl5) v hvm).1.rd (B_one _)) (by rfl) (by omega) (by omega) (fun a7 c7 => ?_)
      rw [← List.map_append, show acc.length + v.bs.length = (acc ++ v.bs).length by rw [List.length_append], ← hsn]
      refine Q.r ?_; (repeat (intro b1; refine Q.r ?_))
      exact ⟨(i + 1, a7, c7), ⟨rfl, rfl, rfl, rfl, trivial⟩, Ent.refl _, hlt, by show us.length - (i + 1) < us.length - i; omega⟩
    · have hie : i = us.length := by omega
      subst hie
      rw [List.take_length, ← hst]
      refine Q.r ?_; (repeat (intro b1; refine Q.r ?_))
      exact ⟨(a1, c1), ⟨rfl, trivial⟩, Ent.refl _, trivial⟩
  · rintro ⟨a1, c1⟩ _
    dsimp only
    refine swp_ent (slO_cap) (swp_pure fun hcc => ?_)
    refine swp_abs a1 (fun M6 hl6 hs6 => ?_)
    refine Q.r ?_; (repeat (intro b1; refine Q.r ?_))
    exact N.r1 (RV.tmp rfl RV.nil) (Ent.refl _) ⟨⟨a1, c1, stateF vs⟩, M6, rfl, rfl, hs6, hcc, hl4.trans (hl5.trans hl6), rfl⟩
set_option maxHeartbeats 1000000 in
theorem Ends_spec (a : Option Addr) (c : Nat) (ks : List Int) (M : Nat → Option Obj) (L0 : List HP) (h : SlM M a ks.length 1 (ks.map I64)) (hc : ks.length ≤ c) :
    CallsS Tryz.prog 36 [.slice a ks.length c] (roM M :: L0) (fun r L' => ∃ a' c' M', r = .slice a' (ks.take 20).length c' ∧ SlM M' a' (ks.take 20).length 1 ((ks.take 20).map I64) ∧ leM M M' ∧ L' = roM M' :: L0) := by
  refine CallsS.of_body Tryz.func36 rfl rfl rfl ?_
  repeat (first | (refine GQ.y ?_; refine Q.y ?_) | refine Q.go ?_ | (refine GQ.g ?_; refine Q.gq ?_) | (refine GQ.s ?_; refine Q.st ?_))
  refine S.bs rfl rfl rfl rfl rfl (fun b => ?_)
  refine opsS_ent (slO_fold (sz := 1) (m := 0) rfl) ?_
  repeat (first | (refine GQ.y ?_; refine Q.y ?_) | refine Q.go ?_ | (refine GQ.g ?_; refine Q.gq ?_) | (refine GQ.s ?_; refine Q.st ?_))
  have hl : (ks.take 20).length = min ks.length 20 := by rw [List.length_take, Nat.min_comm]
  refine S.y (Y.slT (h := (ks.take 20).length) rfl rfl (by rw [hl]; omega) (by omega)) ?_
  repeat (first | (refine GQ.y ?_; refine Q.y ?_) | refine Q.go ?_ | (refine GQ.g ?_; refine Q.gq ?_) | (refine GQ.s ?_; refine Q.st ?_))
  have ht : RdS (roM M :: L0) a (ks.take 20).length 1 ((ks.take 20).map I64) := by
    have := SlM.take h (k := (ks.take 20).length) (by omega)
    rw [Nat.mul_one, ← List.map_take, show ks.take (ks.take 20).length = ks.take 20 by rw [List.length_take]; simp] at this
    exact this.rd
  refine S.app0 rfl rfl rfl (SrcS.rd ht.sub (P_one _)) (by rfl) (by omega) (by omega) (fun a' c' => ?_)
  refine opsS_absc a' (fun M2 hl2 hs2 hc2 => ?_)
  repeat (first | (refine GQ.y ?_; refine Q.y ?_) | refine Q.go ?_ | (refine GQ.g ?_; refine Q.gq ?_) | (refine GQ.s ?_; refine Q.st ?_))
  exact N.r1 (RV.tmp rfl RV.nil) (Ent.refl _) ⟨a', c', M2, rfl, hs2, hl2, rfl⟩
end Go.Proofs.YtkleenllkjodoaaGreatDoor
