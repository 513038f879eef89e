/- The law's example. Readings opened: from what the arguments read as to cells that stay; rows. The journal's rows: what the listed variables hold. The law's begin. JournalMany. What follows behind a call, by what lies there. JournalAll. A Save, with so much power left; pure. What a disk with a generation says when it is opened, whatever power is left; pure. A disk with a generation is opened, with any power, and with all; pure. The document's Sum, Num, Copy, Low. The document's Num, Copy, Next. The document's Next. The document's Records and Read. The document reads a state as the program unpacks it; pure. JournalForms. No condition. -/
import Derived.ReadAgain
import Derived.ChangeArms
import Derived.WideShapes
import Derived.KernelRfl
import Derived.Test.YtkleenllkjodoaaGreatDoorCards
import Derived.Test.YtkleenllkjodoaaGreatDoorTie
import Derived.Deep.DeepHandedRow
import Derived.Lib.LaidTab
import Derived.Stop.LaidErr
import Derived.Lay
import Derived.Test.YtkleenllkjodoaaGreatDoorPk06
set_option linter.unusedVariables false
set_option linter.unusedSimpArgs false
set_option linter.unusedSectionVars false
namespace Go.SX
open Go
theorem S.cvj {P : Program} {n : Nat} {ops rest : List Oper} {Q : Post} {f : Env} {L L0 L1 : List HP} {d : Tmp} {ty : TypeId} {pos : String} {af : Array Edge} {M : Nat → Option Obj} {x : Operand} {t e t0 : TypeId} {b m c : Nat} {l : List Value} [h : SlTy P t e] [h2 : IntTy P e .u8] (hx : ev f x = some (.slice (some ⟨b, 0, none⟩) m c)) [hf : FindB b L (cl l t0)] [hp : Pick (pt b (cl l t0)) L L0] [hm : PickM L0 M L1] (hl : l.length = m)
    (hk : ∀ M', leM M M' → SlM M' (some ⟨b, 0, none⟩) m 1 l → opsS P n ops rest Q (upd f d (.slice (some ⟨b, 0, none⟩) m c)) (roM M' :: L1)) :
    opsS P n ops (⟨some d, .convert t t x, ty, pos, af, none⟩ :: rest) Q f L :=
  S.cvm hx hl fun M1 h1 => opsS_join fun M' hl1 hl2 => hk M' hl1 (h1.mono hl2)
end Go.SX
namespace Go.Proofs.YtkleenllkjodoaaGreatDoor
open Go Go.SX
attribute [local irreducible] swp opsS thenS blockS retS CallsS St Ent YieldS anyS drawS
set_option maxHeartbeats 4000000 in
theorem awakeJ_spec (M : Nat → Option Obj) (L : List HP) (hE : ErrM M) (hT : NibM M) : CallsS Tryz.prog 9 [] (roM M :: L) (fun r L' => r = .bool true ∧ ∃ M', leM M M' ∧ L' = roM M' :: L) := by
  refine CallsS.of_body Tryz.func9 rfl rfl rfl ?_
  refine Q.r ?_; (repeat (intro b1; refine Q.r ?_))
  refine S.cr rfl (DNew_spec 1000 _ (by decide)) ?_
  rintro _ _ ⟨p, rfl, rfl⟩
  refine Q.r ?_; (repeat (intro b1; refine Q.r ?_))
  refine S.cvj (t0 := 5) rfl rfl (fun M1 hl1 hs1 => ?_)
  refine Q.r ?_; (repeat (intro b1; refine Q.r ?_))
  have hT1 := hT.mono hl1
  have hst := stP_len [115]
  have hl0 := fo_0 1000 [115]
  have hfits : ¬ (1000 : Int) < ((stP [115]).length : Nat) := by simp at hst; omega
  have hfo : foE (D0 1000) [115] = 0 := by rw [hl0.1, if_neg hfits]
  have hfs : foS (D0 1000) [115] = dJ 1000 0 [115] none := hl0.2 hfits
  refine S.ckm p rfl (Format_spec p (D0 1000) (some ⟨b1, 0, none⟩) 1 [115] M1 _ hs1 hT1 (Nat.le_refl _) (by decide)) ?_
  rintro _ _ ⟨rfl, M2, hl2, rfl⟩
  rw [hfo, hfs]
  refine Q.r ?_; (repeat (intro b1; refine Q.r ?_))
  have hT2 := hT1.mono hl2
  have hE2 := (hE.mono hl1).mono hl2
  refine S.ckm p rfl (Open_spec p _ M2 _ hE2 hT2 (goodJ (by decide))) ?_
  obtain ⟨o1, o2, o3, o4, o5⟩ := open_J (room := 1000) (n := 0) (s := [115]) (R := []) (lg := none) (by decide) (fun x hx => by cases hx) (.inl ⟨rfl, rfl⟩)
  rintro _ _ ⟨M3, hl3, ⟨h, _⟩ | ⟨_, q, sv, a, c, vs, rfl, _, _, _, hvs, _, _, _, rfl⟩⟩
  · exact absurd o1 h
  rw [o5] at hvs
  have hvl : vs.length = 0 := by rw [← List.length_map (f := YB.bs), hvs]; rfl
  rw [o2, o3, hvl]
  refine Q.r ?_; (repeat (intro b1; refine Q.r ?_))
  refine S.cvj (t0 := 5) rfl rfl (fun M4 hl4 hs4 => ?_)
  generalize b1 = ba at *
  refine Q.r ?_; (repeat (intro b1; refine Q.r ?_))
  refine S.cvj (t0 := 5) rfl rfl (fun M5 hl5 hs5 => ?_)
  generalize b1 = bb at *
  refine Q.r ?_; (repeat (intro b1; refine Q.r ?_))
  refine opsS_ent (L' := pt b1 (cl [.slice (some ⟨ba, 0, none⟩) 1 1, .slice (some ⟨bb, 0, none⟩) 1 1] 31) :: roM M5 :: jnP q p 0 0 false :: diskH p (dJ 1000 0 [115] none) :: L) (by repeat (first | exact Ent.refl _ | exact Ent.nil | refine Ent.pick ?_ | refine Ent.nilS ?_ | refine Ent.nilM ?_ | refine Ent.drop ?_)) ?_
  refine opsS_absR b1 (t := 31) (l := [.slice (some ⟨ba, 0, none⟩) 1 1, .slice (some ⟨bb, 0, none⟩) 1 1]) (m := 2) (cs := [.slice (some ⟨ba, 0, none⟩) 1 1, .slice (some ⟨bb, 0, none⟩) 1 1]) (Nat.le_refl _) rfl (fun M6 hl6 hs6 => ?_)
  refine opsS_ent (L' := jnP q p 0 0 false :: diskH p (dJ 1000 0 [115] none) :: roM M6 :: L) (by repeat (first | exact Ent.refl _ | exact Ent.nil | refine Ent.pick ?_ | refine Ent.nilS ?_ | refine Ent.nilM ?_ | refine Ent.drop ?_)) ?_
  have hT6 := (((hT2.mono hl3).mono hl4).mono hl5).mono hl6
  have hR2 : ([⟨some ⟨ba, 0, none⟩, 1, [97]⟩, ⟨some ⟨bb, 0, none⟩, 1, [98]⟩] : List YB).map YB.bs = [[97], [98]] := rfl
  have hok2 : okYs M6 [⟨some ⟨ba, 0, none⟩, 1, [97]⟩, ⟨some ⟨bb, 0, none⟩, 1, [98]⟩] := fun v hv => by
    rcases List.mem_cons.1 hv with rfl | hv
    · exact ⟨((hs4.mono hl5).mono hl6 : SlM M6 (some ⟨ba, 0, none⟩) 1 1 [B 97]), Nat.le_refl _⟩
    · rw [List.mem_singleton.1 hv]
      exact ⟨(hs5.mono hl6 : SlM M6 (some ⟨bb, 0, none⟩) 1 1 [B 98]), Nat.le_refl _⟩
  refine S.cr rfl (JPut_spec p q ⟨dJ 1000 0 [115] none, 0, 0, false⟩ (some ⟨b1, 0, none⟩) 2 [⟨some ⟨ba, 0, none⟩, 1, [97]⟩, ⟨some ⟨bb, 0, none⟩, 1, [98]⟩] M6 L (by decide) (by decide) (by show 1 ≤ 15; decide) hs6 hok2 hT6 (by simp) (fun v hv => by rcases List.mem_cons.1 hv with rfl | hv; exact Nat.le_of_ble_eq_true rfl; rw [List.mem_singleton.1 hv]; exact Nat.le_of_ble_eq_true rfl)) ?_
  rw [hR2]
  have hfl : (frs [[97], [98]]).length = 14 := by rw [frs_len]; rfl
  have hlg0 : (lgB none).length = 0 := rfl
  obtain ⟨hp1, hp2⟩ := (put_J (room := 1000) (n := 0) (k := 0) (s := [115]) (lg := none) (rs := [[97], [98]]) (by decide) (by simp)).2 (by rw [hfl, hlg0]; simp at hst; omega)
  rintro _ _ ⟨rfl, M7, hl7, rfl⟩
  rw [hp1, hp2]
  refine opsS_ent (L' := jnP q p 0 2 false :: diskH p (dJ 1000 0 [115] (some (frs [[97], [98]], 0))) :: roM M7 :: L) (Ent.refl _) ?_
  have hT7 := hT6.mono hl7
  refine Q.r ?_; (repeat (intro b1; refine Q.r ?_))
  refine S.cr rfl (Force_spec p q ⟨dJ 1000 0 [115] (some (frs [[97], [98]], 0)), 0, 2, false⟩ M7 L (by decide)) ?_
  obtain ⟨hf1, hf2⟩ := foce_J (room := 1000) (n := 0) (k := 2) (s := [115]) (b := frs [[97], [98]]) (f := 0) (by decide)
  rintro _ _ ⟨rfl, M8, hl8, rfl⟩
  rw [hf1, hf2]
  refine opsS_ent (L' := jnP q p 0 2 false :: diskH p (dJ 1000 0 [115] (some (frs [[97], [98]], (frs [[97], [98]]).length))) :: roM M8 :: L) (Ent.refl _) ?_
  refine Q.r ?_; (repeat (intro b1; refine Q.r ?_))
  refine S.cvj (t0 := 5) rfl rfl (fun M9 hl9 hs9 => ?_)
  generalize b1 = bc at *
  refine Q.r ?_; (repeat (intro b1; refine Q.r ?_))
  refine opsS_ent (L' := pt b1 (cl [.slice (some ⟨bc, 0, none⟩) 1 1] 31) :: roM M9 :: jnP q p 0 2 false :: diskH p (dJ 1000 0 [115] (some (frs [[97], [98]], (frs [[97], [98]]).length))) :: L) (by repeat (first | exact Ent.refl _ | exact Ent.nil | refine Ent.pick ?_ | refine Ent.nilS ?_ | refine Ent.nilM ?_ | refine Ent.drop ?_)) ?_
  refine opsS_absR b1 (t := 31) (l := [.slice (some ⟨bc, 0, none⟩) 1 1]) (m := 1) (cs := [.slice (some ⟨bc, 0, none⟩) 1 1]) (Nat.le_refl _) rfl (fun M10 hl10 hs10 => ?_)
  refine opsS_ent (L' := jnP q p 0 2 false :: diskH p (dJ 1000 0 [115] (some (frs [[97], [98]], (frs [[97], [98]]).length))) :: roM M10 :: L) (by repeat (first | exact Ent.refl _ | exact Ent.nil | refine Ent.pick ?_ | refine Ent.nilS ?_ | refine Ent.nilM ?_ | refine Ent.drop ?_)) ?_
  have hT10 := ((hT7.mono hl8).mono hl9).mono hl10
  have hR3 : ([⟨some ⟨bc, 0, none⟩, 1, [99]⟩] : List YB).map YB.bs = [[99]] := rfl
  have hok3 : okYs M10 [⟨some ⟨bc, 0, none⟩, 1, [99]⟩] := fun v hv => by
    rw [List.mem_singleton.1 hv]
    exact ⟨(hs9.mono hl10 : SlM M10 (some ⟨bc, 0, none⟩) 1 1 [B 99]), Nat.le_refl _⟩
  refine S.cr rfl (JPut_spec p q ⟨dJ 1000 0 [115] (some (frs [[97], [98]], (frs [[97], [98]]).length)), 0, 2, false⟩ (some ⟨b1, 0, none⟩) 1 [⟨some ⟨bc, 0, none⟩, 1, [99]⟩] M10 L (by decide) (by decide) (by show 2 ≤ 15; decide) hs10 hok3 hT10 (by simp) (fun v hv => by rw [List.mem_singleton.1 hv]; exact Nat.le_of_ble_eq_true rfl)) ?_
  rw [hR3]
  have hfl3 : (frs [[99]]).length = 7 := by rw [frs_len]; rfl
  have hlg3 : (lgB (some (frs [[97], [98]], (frs [[97], [98]]).length))).length = 14 := hfl
  obtain ⟨hq1, hq2⟩ := (put_J (room := 1000) (n := 0) (k := 2) (s := [115]) (lg := some (frs [[97], [98]], (frs [[97], [98]]).length)) (rs := [[99]]) (by decide) (by simp)).2 (by rw [hfl3, hlg3]; simp at hst; omega)
  rintro _ _ ⟨rfl, M11, hl11, rfl⟩
  rw [hq1, hq2]
  refine opsS_ent (L' := jnP q p 0 3 false :: diskH p (dJ 1000 0 [115] (some (frs [[97], [98]] ++ frs [[99]], (frs [[97], [98]]).length))) :: roM M11 :: L) (Ent.refl _) ?_
  refine Q.r ?_; (repeat (intro b1; refine Q.r ?_))
  refine S.ckm p rfl (Names_spec p _ M11 _) ?_
  rintro _ _ ⟨a4, c4, M12, rfl, hs12, hc12, hl12, rfl⟩
  rw [namesJ] at hs12
  rw [show (dJ 1000 0 [115] (some (frs [[97], [98]] ++ frs [[99]], (frs [[97], [98]]).length))).fs.length = 2 from rfl] at hs12 hc12 ⊢
  refine Q.r ?_; (repeat (intro b1; refine Q.r ?_))
  refine S.ckm p rfl (Crash_spec p _ none 0 [] M12 _ SlM.nil (by decide)) ?_
  rintro _ _ ⟨kf, M13, rfl, hl13, hkf1, hkf2, rfl⟩
  have hkf := hkf2 rfl
  have hcr : crD (dJ 1000 0 [115] (some (frs [[97], [98]] ++ frs [[99]], (frs [[97], [98]]).length))) kf = dJ 1000 0 [115] (some (frs [[97], [98]], (frs [[97], [98]]).length)) := by
    unfold crD dJ
    simp [hkf]
  rw [hcr]
  refine Q.r ?_; (repeat (intro b1; refine Q.r ?_))
  have hT13 := ((hT10.mono hl11).mono hl12).mono hl13
  have hE13 := ((((((((((hE2.mono hl3).mono hl4).mono hl5).mono hl6).mono hl7).mono hl8).mono hl9).mono hl10).mono hl11).mono hl12).mono hl13
  refine S.ckm p rfl (Open_spec p _ M13 _ hE13 hT13 (goodJ (by decide))) ?_
  obtain ⟨p1, p2, p3, p4, p5⟩ := open_J (room := 1000) (n := 0) (s := [115]) (R := [[97], [98]]) (lg := some (frs [[97], [98]], (frs [[97], [98]]).length)) (by decide) (fun x hx => by rcases List.mem_cons.1 hx with rfl | hx; exact ⟨by decide, by decide⟩; rw [List.mem_singleton.1 hx]; exact ⟨by decide, by decide⟩) (.inr ⟨_, Nat.le_refl _, rfl⟩)
  rintro _ _ ⟨M14, hl14, ⟨h, _⟩ | ⟨_, q2, sv2, a5, c5, us, rfl, hsv, hsvo, hsvc, hus, huo, hua, huc, rfl⟩⟩
  · exact absurd p1 h
  rw [p5] at hus
  rw [p4] at hsv
  rw [p2, p3]
  have hs14 : SlM M14 a4 2 1 ([[99, 48], [108, 48]].flatMap sC) := by
    rw [flat_sC]
    have hn1 : nm 99 0 = [99, 48] := by unfold nm; rw [decD_lo (by decide)]; rfl
    have hn2 : nm 108 0 = [108, 48] := by unfold nm; rw [decD_lo (by decide)]; rfl
    rw [hn1, hn2] at hs12
    exact (hs12.mono hl13).mono hl14
  obtain ⟨b4, o4, rfl, hr0⟩ := SlM.cm (g := sC) (k := 0) (fun _ => rfl) hs14 rfl rfl
  obtain ⟨b4', o4', e4, hr1⟩ := SlM.cm (g := sC) (k := 1) (fun _ => rfl) hs14 rfl rfl
  cases e4
  have hul : us.length = 2 := by rw [← List.length_map (f := YB.bs), hus]; rfl
  obtain ⟨u0, u1, rfl⟩ : ∃ u0 u1, us = [u0, u1] := by
    match us, hul with
    | [u0, u1], _ => exact ⟨u0, u1, rfl⟩
  simp only [List.map_cons, List.map_nil, List.cons.injEq, and_true] at hus
  obtain ⟨hu0, hu1⟩ := hus
  have hu1o := (huo u1 (by simp)).1
  obtain ⟨b5, o5, rfl, hr5⟩ := SlM.cm (g := YB.cells) (k := 1) (fun _ => rfl) hua rfl rfl
  obtain ⟨sa, sc, sbs⟩ := sv2
  have hsv2 : sbs = [115] := Option.some.inj hsv
  subst hsv2
  obtain ⟨ua, uc, ubs⟩ := u1
  dsimp only at hu1
  subst hu1
  refine Q.r ?_; (repeat (intro b1; refine Q.r ?_))
  refine S.y (by refine Y.b2s (bs := [115]) (by rfl) ?_; exact hsvo.rd) ?_
  refine Q.r ?_; (repeat (intro b1; refine Q.r ?_))
  refine S.y (by refine Y.b2s (bs := [98]) (by rfl) ?_; exact okYM.rd hu1o) ?_
  refine Q.r ?_; (repeat (intro b1; refine Q.r ?_))
  refine N.r1 (RV.tmp rfl RV.nil) (L' := roM M14 :: L) (by repeat (first | exact Ent.refl _ | exact Ent.nil | refine Ent.pick ?_ | refine Ent.nilS ?_ | refine Ent.nilM ?_ | refine Ent.drop ?_)) ⟨rfl, M14, ?_, rfl⟩
  exact hl1.trans (hl2.trans (hl3.trans (hl4.trans (hl5.trans (hl6.trans (hl7.trans (hl8.trans (hl9.trans (hl10.trans (hl11.trans (hl12.trans (hl13.trans hl14))))))))))))
end Go.Proofs.YtkleenllkjodoaaGreatDoor
namespace Go.SX
open Go Go.ChangeShapes Go.WideShapes Go.RowKit
section
variable {H : Type} {enc : TypeId × Value → H} {P : Program} {W : World}
def Rd (enc : TypeId × Value → H) (P : Program) (W : World) (t : TypeId) (cs : List Value) : Prop := ∃ n x, DataW.trod enc P W 0 (fun _ => true) true n t cs = some x
theorem cells_of {w : World} {base : Nat} {a : Addr} {n : Nat} {cs : List Value} (h : w.cells? base a n = some cs) : cs.length = n ∧ ∀ j, j < n → w.cell? (a.add j) = cs[j]? := by
  unfold World.cells? at h
  split at h
  · exact ⟨by simpa using mapM_some_length h, fun j hj => by simpa using mapM_some_get h j j (by simp [hj])⟩
  · cases h
theorem cell_block {w : World} {a : Addr} {v : Value} (h : w.cell? a = some v) : ∃ l t fz, w.heap[a.block]? = some (.cells l t fz) ∧ l[a.off]? = some v ∧ a.spot = none := by
  unfold World.cell? at h
  split at h
  · rename_i c t fz hb
    split at h
    · cases h
    · rename_i hs
      refine ⟨c, t, fz, hb, h, by simpa using hs⟩
  · cases h
theorem add_at (x y n : Nat) : (⟨x, y, none⟩ : Addr).add n = ⟨x, y + n, none⟩ := by unfold Addr.add; split <;> simp_all
theorem flat_at {sz : Nat} : ∀ {rows : List (List Value)} {j : Nat} {v : Value}, (∀ r ∈ rows, r.length = sz) → rows.flatten[j]? = some v → ∃ k r i, rows[k]? = some r ∧ r[i]? = some v ∧ j = k * sz + i
  | [], j, v, _, h => by simp at h
  | r :: rows, j, v, hr, h => by
    have h0 := hr r (by simp)
    rw [List.flatten_cons] at h
    by_cases hj : j < r.length
    · rw [List.getElem?_append_left hj] at h
      exact ⟨0, r, j, rfl, h, by simp⟩
    · rw [List.getElem?_append_right (by omega)] at h
      obtain ⟨k, r', i, h1, h2, h3⟩ := flat_at (fun x hx => hr x (by simp [hx])) h
      exact ⟨k + 1, r', i, by simpa using h1, h2, by rw [Nat.succ_mul]; omega⟩
theorem Rd.slice {t e : TypeId} {sz : Nat} {cs : List Value} (h : Rd enc P W t cs) (ht : P.underlying t = some (.slice e)) (hs : P.cellsOf e = sz) (h0 : 0 < sz) :
    ∃ (a : Option Addr) (c : Nat) (rows : List (List Value)), cs = [.slice a rows.length c] ∧ rows.length ≤ c ∧ c ≤ maxLen ∧ SlM (all0 W) a rows.length sz rows.flatten ∧ ∀ r ∈ rows, r.length = sz ∧ Rd enc P W e r := by
  obtain ⟨n, x, h⟩ := h
  rcases DataW.trod_slice ht h with ⟨rfl, _⟩ | ⟨a, len, cap, elems, rest, n, rfl, rfl, _, _, hlc, hcm, hel, hat, _⟩
  · exact ⟨none, 0, [], rfl, Nat.le_refl _, Nat.zero_le _, SlM.nil, by simp⟩
  · simp only [hs] at hat
    have hrow : ∀ i, i < len → ∃ r y, W.cells? 0 (a.add (i * sz)) sz = some r ∧ DataW.trod enc P W 0 (fun _ => true) true n e r = some y := fun i hi => by
      have := hat i hi
      have hi' : i < elems.length := by omega
      rw [List.getElem?_eq_getElem hi'] at this
      obtain ⟨r, h1, h2⟩ := Option.bind_eq_some_iff.1 this
      exact ⟨r, _, h1, h2⟩
    let rows := (List.range len).map fun i => (W.cells? 0 (a.add (i * sz)) sz).getD []
    have hrl : rows.length = len := by simp [rows]
    have hri : ∀ i r, rows[i]? = some r → i < len ∧ W.cells? 0 (a.add (i * sz)) sz = some r := fun i r hr => by
      have hi : i < len := by have := (List.getElem?_eq_some_iff.1 hr).1; omega
      obtain ⟨r', y, h1, _⟩ := hrow i hi
      refine ⟨hi, ?_⟩
      simp only [rows, List.getElem?_map, List.getElem?_range hi, Option.map_some, Option.some.injEq, h1, Option.getD_some] at hr
      rw [← hr]; exact h1
    have hmem : ∀ r ∈ rows, r.length = sz ∧ Rd enc P W e r := fun r hr => by
      obtain ⟨i, hi, rfl⟩ := List.getElem_of_mem hr
      obtain ⟨h1, h2⟩ := hri i _ (List.getElem?_eq_getElem hi)
      obtain ⟨r', y, h3, h4⟩ := hrow i h1
      rw [h2] at h3; cases h3
      exact ⟨(cells_of h2).1, n, y, h4⟩
    refine ⟨some a, cap, rows, by rw [hrl], by omega, hcm, ⟨?_, ?_⟩, hmem⟩
    · have : ∀ l : List (List Value), (∀ r ∈ l, r.length = sz) → l.flatten.length = l.length * sz := by
        intro l
        induction l with
        | nil => simp
        | cons r l ih => intro h; rw [List.flatten_cons, List.length_append, h r (by simp), ih (fun x hx => h x (by simp [hx])), List.length_cons, Nat.succ_mul]; omega
      exact this rows fun r hr => (hmem r hr).1
    · by_cases hl0 : len = 0
      · exact .inl (by omega)
      · refine .inr ?_
        obtain ⟨r0, y0, h1, _⟩ := hrow 0 (by omega)
        have h2 := (cells_of h1).2 0 h0
        have hr0 : 0 < r0.length := by rw [(cells_of h1).1]; exact h0
        rw [List.getElem?_eq_getElem hr0] at h2
        obtain ⟨l, tt, fz, hb, hc, hsp⟩ := cell_block h2
        have ea : (a.add (0 * sz)).add 0 = a := by simp [Addr.add]
        rw [ea] at hb hc hsp
        have eA : a = ⟨a.block, a.off, none⟩ := by cases a; simp_all
        refine ⟨a.block, a.off, l, tt, fz, by rw [← eA], hb, fun j v hv => ?_⟩
        obtain ⟨k, r, i, h3, h4, rfl⟩ := flat_at (fun r hr => (hmem r hr).1) hv
        obtain ⟨h5, h6⟩ := hri k r h3
        have hi : i < sz := by rw [← (cells_of h6).1]; exact (List.getElem?_eq_some_iff.1 h4).1
        have h7 := (cells_of h6).2 i hi
        rw [h4] at h7
        have e2 : (a.add (k * sz)).add i = ⟨a.block, a.off + (k * sz + i), none⟩ := by
          rw [eA, add_at, add_at, Nat.add_assoc]
        rw [e2] at h7
        simp only [World.cell?, hb] at h7
        simpa using h7
theorem Rd.list {t e : TypeId} {sz : Nat} {cs : List Value} {α : Type} {g : α → List Value} {Q : α → Prop} (he : ∀ r, Rd enc P W e r → ∃ x, r = g x ∧ Q x) (h : Rd enc P W t cs) (ht : P.underlying t = some (.slice e)) (hs : P.cellsOf e = sz) (h0 : 0 < sz) :
    ∃ (a : Option Addr) (c : Nat) (xs : List α), cs = [.slice a xs.length c] ∧ xs.length ≤ c ∧ c ≤ maxLen ∧ SlM (all0 W) a xs.length sz (xs.flatMap g) ∧ ∀ x ∈ xs, Q x := by
  obtain ⟨a, c, rows, h1, h2, h3, h4, h5⟩ := h.slice ht hs h0
  have key : ∀ rows : List (List Value), (∀ r ∈ rows, r.length = sz ∧ Rd enc P W e r) → ∃ xs : List α, rows = xs.map g ∧ ∀ x ∈ xs, Q x := by
    intro rows
    induction rows with
    | nil => exact fun _ => ⟨[], rfl, by simp⟩
    | cons r rows ih =>
      intro h
      obtain ⟨xs, e1, e2⟩ := ih fun x hx => h x (by simp [hx])
      obtain ⟨x, e3, e4⟩ := he r (h r (by simp)).2
      refine ⟨x :: xs, by rw [List.map_cons, ← e1, ← e3], fun y hy => ?_⟩
      rcases List.mem_cons.1 hy with rfl | hy
      · exact e4
      · exact e2 y hy
  obtain ⟨xs, e1, e2⟩ := key rows h5
  have el : rows.length = xs.length := by rw [e1, List.length_map]
  rw [el] at h1 h2 h4
  refine ⟨a, c, xs, h1, h2, h3, ?_, e2⟩
  rw [List.flatMap_def, ← e1]; exact h4
theorem Rd.int {t : TypeId} {k : IntKind} {cs : List Value} (h : Rd enc P W t cs) (ht : P.underlying t = some (.int k)) : ∃ n, cs = [.int k n] ∧ (Lit.int k n).wf = true := by
  obtain ⟨n, x, h⟩ := h
  obtain ⟨v, h1, _, h2⟩ := DataW.trod_int ht h
  exact ⟨v, h1, h2⟩
theorem Rd.bool {t : TypeId} {cs : List Value} (h : Rd enc P W t cs) (ht : P.underlying t = some .bool) : ∃ b, cs = [.bool b] := by
  obtain ⟨n, x, h⟩ := h
  obtain ⟨v, h1, _⟩ := DataW.trod_bool ht h
  exact ⟨v, h1⟩
theorem Rd.byte {t : TypeId} {cs : List Value} (h : Rd enc P W t cs) (ht : P.underlying t = some (.int .u8)) : ∃ x, cs = [B x] ∧ True := by
  obtain ⟨n, rfl, h1⟩ := h.int ht
  have h2 : 0 ≤ n ∧ n ≤ 255 := bounds_u8 h1
  refine ⟨UInt8.ofNat n.toNat, ?_, trivial⟩
  have : (UInt8.ofNat n.toNat).toNat = n.toNat := by simp; omega
  simp only [B, this]
  rw [Int.toNat_of_nonneg h2.1]
theorem Rd.bytes {t e : TypeId} {cs : List Value} (h : Rd enc P W t cs) (ht : P.underlying t = some (.slice e)) (he : P.underlying e = some (.int .u8)) (hs : P.cellsOf e = 1) :
    ∃ (a : Option Addr) (c : Nat) (bs : List UInt8), cs = [.slice a bs.length c] ∧ bs.length ≤ c ∧ c ≤ maxLen ∧ SlM (all0 W) a bs.length 1 (bs.map B) := by
  obtain ⟨a, c, xs, h1, h2, h3, h4, _⟩ := Rd.list (g := fun x => [B x]) (fun r hr => hr.byte he) h ht hs (by omega)
  refine ⟨a, c, xs, h1, h2, h3, ?_⟩
  have key : ∀ xs : List UInt8, xs.flatMap (fun x => [B x]) = xs.map B := fun xs => by induction xs with
    | nil => rfl
    | cons x xs ih => rw [List.flatMap_cons, ih]; rfl
  rwa [key] at h4
theorem args_again (K : Kids P (· < P.types.size)) (hz : ∀ t e, t < P.types.size → P.underlying t = some (.slice e) → 0 < P.cellsOf e) {W' : World} {ts : List TypeId} {vs : List Value} {ds : List (DataW H)} {ps : List MemPlace} (hT : ∀ t ∈ ts, t < P.types.size)
    (h : DataW.TrodAll enc P W 0 (fun _ => true) true ts vs ds ps) (hk : Kept W W') (sp : Nat → Bool) (hs : ∀ p ∈ ps, sp p.block = true) : DataW.TrodAll enc P W' 0 sp true ts vs ds ps :=
  DataW.TrodAll.respare K hz hT (trodAll_kept hk h) hs
theorem trodAll_rd : ∀ {ts : List TypeId} {vs : List Value} {ds : List (DataW H)} {ps : List MemPlace}, DataW.TrodAll enc P W 0 (fun _ => true) true ts vs ds ps → vs.length = ts.length ∧ ds.length = ts.length ∧ ∀ (i : Nat) (t : TypeId) (v : Value), ts[i]? = some t → vs[i]? = some v → Rd enc P W t v.cells.toList
  | [], [], [], _, _ => ⟨rfl, rfl, fun i t v h => by simp at h⟩
  | t :: ts, v :: vs, d :: ds, ps, ⟨p, q, ⟨n, h1⟩, h2, _⟩ => by
    obtain ⟨e1, e2, e3⟩ := trodAll_rd h2
    refine ⟨by simp [e1], by simp [e2], fun i t' v' h h' => ?_⟩
    cases i with
    | zero => simp at h h'; subst h h'; exact ⟨n, _, h1⟩
    | succ i => exact e3 i t' v' (by simpa using h) (by simpa using h')
structure Arg (enc : TypeId × Value → H) (P : Program) (W : World) (t : TypeId) (v : Value) : Prop where
  rd : Rd enc P W t v.cells.toList
  ok : ∃ base, Value.okWide P W .any base t v
theorem Arg.int {t : TypeId} {k : IntKind} {v : Value} (h : Arg enc P W t v) (ht : P.underlying t = some (.int k)) : ∃ n, v = .int k n ∧ (Lit.int k n).wf = true := by
  obtain ⟨r, _, o⟩ := h
  obtain ⟨n, rfl⟩ := okWide_int ht o
  obtain ⟨m, h1, h2⟩ := r.int ht
  simp [Value.cells] at h1
  subst h1
  exact ⟨n, rfl, h2⟩
theorem Arg.bool {t : TypeId} {v : Value} (h : Arg enc P W t v) (ht : P.underlying t = some .bool) : ∃ b, v = .bool b := by
  obtain ⟨r, _, o⟩ := h
  exact okWide_bool ht o
theorem Arg.bytes {t e : TypeId} {v : Value} (h : Arg enc P W t v) (ht : P.underlying t = some (.slice e)) (he : P.underlying e = some (.int .u8)) (hs : P.cellsOf e = 1) :
    ∃ (a : Option Addr) (c : Nat) (bs : List UInt8), v = .slice a bs.length c ∧ bs.length ≤ c ∧ c ≤ 9223372036854775807 ∧ SlM (all0 W) a bs.length 1 (bs.map B) := by
  obtain ⟨r, _, o⟩ := h
  obtain ⟨a, l, c, rfl⟩ := okWide_slice ht o
  obtain ⟨a', c', xs, h1, h2, h3, h4⟩ := r.bytes ht he hs
  simp [Value.cells] at h1
  obtain ⟨rfl, rfl, rfl⟩ := h1
  exact ⟨_, _, xs, rfl, h2, h3, h4⟩
theorem row_post {f : FuncId} {F : Func} {s : ChangeSpec} {tb : TypeId} {args : Array Value} {ds gs : List (DataW H)} {before : List MemPlace} {handsOn again : Bool} (K : Kids P (· < P.types.size)) (hz : ∀ t e, t < P.types.size → P.underlying t = some (.slice e) → 0 < P.cellsOf e)
    (hT : (F.params.toList.all fun t => decide (t < P.types.size)) = true) (hvs : s.vars = []) (hfn : ∀ ds : List (DataW H), ds.length = F.params.toList.length → s.fn H ds = { results := [.lit (.bool true)], args := ds }) (hrt : F.resultTypes = #[tb]) (htb : P.underlying tb = some .bool)
    {base : Nat} (hval : ∀ (j : Nat) t v, F.params[j]? = some t → args[j]? = some v → Value.okWide P W .any base t v)
    (hW : DataW.Whole enc P F.params.toList s.vars false W args.toList ds gs before)
    (hw : (∀ (i : Nat) (t : TypeId) (v : Value), F.params.toList[i]? = some t → args.toList[i]? = some v → Arg enc P W t v) → args.toList.length = F.params.toList.length → CallsS P f args.toList [roM (all0 W)] (fun v _ => v = .bool true)) :
    Calls P f args W fun e W' => ∃ v, e = .returned v ∧ s.post enc P F false true handsOn again W args v W' := by
  have hW' := hW
  obtain ⟨p, q, hA, hV, rfl, hfz, hnd⟩ := hW
  rw [hvs] at hV
  obtain ⟨rfl, rfl⟩ : gs = [] ∧ q = [] := by
    cases gs with
    | nil => exact ⟨rfl, hV⟩
    | cons g gs => exact hV.elim
  obtain ⟨h1, h2, h3⟩ := trodAll_rd hA
  have hc := (hw (fun i t v e1 e2 => ⟨h3 i t v e1 e2, base, hval i t v (by simpa using e1) (by simpa using e2)⟩) h1).kept
  refine hc.mono fun e W' ⟨he, hk⟩ => ?_
  subst he
  have hf := hfn ds h2
  refine ⟨_, rfl, post_kept (pa := p) (pv := []) hW' (fun b sp hd => ?_) (fun sp hsp => ?_) (fun sp _ => ?_) rfl hk ?_⟩
  · rw [hrt, List.append_nil, hf]
    exact trodAll_cons_mk (shut_bool htb _) trodAll_mk0
  · rw [List.append_nil, hf]
    exact args_again K hz (fun t ht => of_decide_eq_true (List.all_eq_true.1 hT t ht)) hA hk sp (fun x hx => hsp x (by simp [hx]))
  · rw [hvs, List.append_nil, hf]; rfl
  · exact ok_one hrt rfl (okWide_bool_mk htb _)
end
end Go.SX
namespace Go.Proofs.YtkleenllkjodoaaGreatDoor
open Go Go.SX Go.ChangeShapes Go.WideShapes Go.ChangeAt Go.RowKit
abbrev laidL : List (String × DataW Unit) := [("math/bits.deBruijn32tab", Rows.laid_math_bits_deBruijn32tab), ("math/bits.deBruijn64tab", Rows.laid_math_bits_deBruijn64tab), ("internal/strconv.uint64pow10", Rows.laid_internal_strconv_uint64pow10), ("strconv.ErrRange", Rows.laid_strconv_ErrRange), ("strconv.ErrSyntax", Rows.laid_strconv_ErrSyntax), ("armillary/seal.nibble", Rows.laid_armillary_seal_nibble)]
theorem gNib : Tryz.prog.globalNamed "armillary/seal.nibble" = some 0 := by kernel_rfl
theorem gNibT : (Tryz.prog.globals[0]?).map (·.type) = some 125 := by kernel_rfl
theorem gErr : Tryz.prog.globalNamed "strconv.ErrSyntax" = some 3 := by kernel_rfl
theorem gErrT : (Tryz.prog.globals[3]?).map (·.type) = some 130 := by kernel_rfl
theorem starE : "*" ++ "errors.errorString" = "*errors.errorString" := by decide
theorem rowE (u : TypeId) (h : Tryz.prog.typeName? 3 u = some "*errors.errorString") : u = 184 :=
  typeName_ptr_named (nm := "errors.errorString") (by rw [starE]; kernel_rfl) (by kernel_rfl) (by decide) u (by rw [starE]; exact h)
theorem nib_is : (Rows.laid_armillary_seal_nibble : DataW Unit) = Lib.tabData .u32 (nibT.map fun z : Nat => (z : Int)) := by kernel_rfl
theorem heap_var {W : World} {n : String} {g : Nat} {cs : Array Value} (hg : Tryz.prog.globalNamed n = some g) (h : W.var? Tryz.prog n = some cs) : ∃ t fz, W.heap[g]? = some (.cells cs t fz) := by
  unfold World.var? at h
  rw [hg] at h
  simp only [Option.bind_some] at h
  cases hb : W.heap[g]? with
  | none => rw [hb] at h; cases h
  | some o =>
    rw [hb] at h
    cases o with
    | cells l t fz => dsimp only at h; cases h; exact ⟨t, fz, rfl⟩
    | _ => cases h
theorem nib_of_laid {W : World} (h : laidMet Tryz.prog laidL W) : NibM (all0 W) := by
  have h1 := h.tail.tail.tail.tail.tail
  rw [nib_is] at h1
  have h2 := Lib.tabIs_of_head gNib gNibT Tryz.underlying125 Tryz.underlying108 (by kernel_rfl) (by kernel_rfl) h1
  obtain ⟨t, fz, h3⟩ := heap_var gNib h2
  refine ⟨by decide, .inr ⟨0, 0, _, t, fz, rfl, h3, fun j v hv => ?_⟩⟩
  rw [Nat.zero_add]
  simpa [nibC, List.map_map] using hv
theorem err_of_laid {W : World} (h : laidMet Tryz.prog laidL W) : ErrM (all0 W) := by
  have h1 := h.tail.tail.tail.tail
  obtain ⟨a, s, h2, _⟩ := laid_sentinel h1 gErr gErrT Tryz.underlying130 rowE Tryz.underlying184 Tryz.underlying186 rfl rfl Tryz.underlying9 (by kernel_rfl) (by kernel_rfl)
  obtain ⟨t, fz, h3⟩ := heap_var gErr h2
  refine ⟨184, .pointer (some a), rfl, .inr ⟨3, 0, _, t, fz, rfl, h3, fun j v hv => ?_⟩⟩
  rw [Nat.zero_add]
  simpa using hv
theorem laid_fits (os : Os) : (World.holding Tryz.prog os ⟨#[], #[], []⟩).layFits Tryz.prog laidL [] = true := by kernel_rfl
theorem laid_ifaces (os : Os) : (World.holding Tryz.prog os ⟨#[], #[], []⟩).layIfaces Tryz.prog laidL (World.laidAll Tryz.prog os laidL) = true := by kernel_rfl
theorem laid_all (os : Os) (args : Array Value) : laidMet Tryz.prog laidL ((World.laidAll Tryz.prog os laidL).forCall (fun _ _ => 0) ⟨#[], args, []⟩).memory := laidMet_laidAll args (laid_fits os) (laid_ifaces os)
end Go.Proofs.YtkleenllkjodoaaGreatDoor
namespace Go.Proofs.YtkleenllkjodoaaGreatDoor
open Go Go.SX
attribute [local irreducible] swp opsS thenS blockS retS CallsS St Ent YieldS anyS drawS
end Go.Proofs.YtkleenllkjodoaaGreatDoor
namespace Go.Proofs.YtkleenllkjodoaaGreatDoor
open Go Go.SX
attribute [local irreducible] swp opsS thenS blockS retS CallsS St Ent YieldS anyS drawS
end Go.Proofs.YtkleenllkjodoaaGreatDoor
namespace Go.SX
open Go
def EntX (L : List HP) (F : List HP → Prop) : Prop := ∀ w G, St w (L ++ G) → ∃ L2, F L2 ∧ St w (L2 ++ G)
theorem EntX.ent {L L' : List HP} {F : List HP → Prop} (h : Ent L L') (hk : EntX L' F) : EntX L F := fun w G t => hk w G (h w G t)
theorem EntX.done {L : List HP} {F : List HP → Prop} (h : F L) : EntX L F := fun _ _ t => ⟨L, h, t⟩
theorem EntX.ex {α : Sort _} {X : α → HP} {L : List HP} {F : List HP → Prop} (h : ∀ x, EntX (X x :: L) F) : EntX (exH X :: L) F := fun w G t => let ⟨x, t⟩ := St.open_ex t; h x w G t
theorem EntX.pure {φ : Prop} {L : List HP} {F : List HP → Prop} (h : φ → EntX L F) : EntX (pureH φ :: L) F := fun w G t => let ⟨x, t⟩ := St.open_pure t; h x w G t
theorem EntX.abs (a : Option Addr) {t sz m c : Nat} {cs : List Value} {M : Nat → Option Obj} {L L0 L1 : List HP} {F : List HP → Prop} [h : PickS a L t sz m c cs L0] [h1 : PickM L0 M L1] (hk : ∀ M', leM M M' → SlM M' a m sz cs → EntX (roM M' :: L1) F) : EntX L F :=
  EntX.ent h.ent (EntX.ent Ent.absorb (EntX.ex fun M' => EntX.ent Ent.open_all (EntX.pure fun h => hk M' h.1 h.2)))
theorem CallsS.post {P : Program} {g : FuncId} {args : List Value} {L : List HP} {R R' : Value → List HP → Prop} (h : CallsS P g args L R) (hR : ∀ v L1, R v L1 → EntX L1 (R' v)) : CallsS P g args L R' := by
  intro F w t
  refine (h F w t).mono ?_
  rintro e w' ⟨v, M, rfl, t', r⟩
  obtain ⟨L2, h1, h2⟩ := hR v M r w' F t'
  exact ⟨v, L2, rfl, h2, h1⟩
end Go.SX
namespace Go.Proofs.YtkleenllkjodoaaGreatDoor
open Go Go.SX
attribute [local irreducible] swp opsS thenS blockS retS CallsS St Ent YieldS anyS drawS
end Go.Proofs.YtkleenllkjodoaaGreatDoor
namespace Go.Proofs.YtkleenllkjodoaaGreatDoor
open Go Go.SX
def dn (l : Int) : Int := max (l - 1) (-1)
theorem sB1 {l : Int} (h : l ≠ 0) (room : Int) (fs : List FE) : spendB ⟨l, false, room, fs⟩ = true := by unfold spendB; simp [h]
theorem sD1 {l : Int} (h : l ≠ 0) (room : Int) (fs : List FE) : spendD ⟨l, false, room, fs⟩ = ⟨dn l, false, room, fs⟩ := by unfold spendD; rw [sB1 h]; rfl
theorem wr1E {l : Int} (h : l ≠ 0) (room : Int) (fs : List FE) (b : List UInt8) : wrE ⟨l, false, room, fs⟩ b = if room < usedD fs + b.length then 8 else 0 := by
  unfold wrE; rw [sB1 h, if_neg (by decide), sD1 h]; rfl
theorem wr1S {l : Int} (h : l ≠ 0) {room : Int} {fs : List FE} {b : List UInt8} (n : List UInt8) (hf : ¬ room < usedD fs + b.length) : wrS ⟨l, false, room, fs⟩ n b = ⟨dn l, false, room, putL fs n (((lkL fs n).getD ([], 0)).1 ++ b, ((lkL fs n).getD ([], 0)).2)⟩ := by
  unfold wrS; rw [wr1E h, if_neg hf, if_pos rfl, sD1 h]; rfl
theorem putL_new {α : Type} {m : List (List UInt8 × α)} {x : List UInt8} (h : ∀ u ∈ m, u.1 ≠ x) (a : α) : putL m x a = m ++ [(x, a)] := by
  unfold putL
  rw [if_neg]
  intro h2
  obtain ⟨u, hu, hx⟩ := List.any_eq_true.1 h2
  exact h u hu (of_decide_eq_true hx)
section
variable {l room : Int} {n k : Nat} {s s' : List UInt8} {lg : Option (List UInt8 × Nat)}
end
end Go.Proofs.YtkleenllkjodoaaGreatDoor
namespace Go.Proofs.YtkleenllkjodoaaGreatDoor
open Go Go.SX
structure GD (fs : List FE) (n : Nat) (s : List UInt8 × Nat) (lg : Option (List UInt8 × Nat)) : Prop where
  key : keysOK fs
  na : ∀ u ∈ fs, u.1 = tN ∨ (∃ k, k ≤ n ∧ u.1 = nm 99 k) ∨ (∃ k, k < 100 ∧ u.1 = nm 108 k)
  c : lkL fs (nm 99 n) = some s
  l : lkL fs (nm 108 n) = lg
theorem putL_memF {α : Type} {m : List (List UInt8 × α)} {k : List UInt8} {a : α} {x : List UInt8 × α} (h : x ∈ putL m k a) : x ∈ m ∨ x = (k, a) := by
  unfold putL at h
  split at h
  · obtain ⟨u, hu, rfl⟩ := List.mem_map.1 h
    split
    · exact .inr rfl
    · exact .inl hu
  · rcases List.mem_append.1 h with h | h
    · exact .inl h
    · exact .inr (List.mem_singleton.1 h)
theorem mem_names {d : DK} {x : List UInt8} : x ∈ namesD d ↔ ∃ u ∈ d.fs, u.1 = x := by
  unfold namesD
  rw [(srtS_perm _).mem_iff, List.mem_map]
theorem lat_le (ns : List (List UInt8)) {x : List UInt8} {k : Nat} (hx : x ∈ ns) (hk : numOf 99 x = some k) : ∀ m : Int, (k : Int) ≤ ns.foldl latM m := by
  have hge : ∀ (ns : List (List UInt8)) (m : Int), m ≤ ns.foldl latM m := by
    intro ns
    induction ns with
    | nil => intro m; exact Int.le_refl _
    | cons n ns ih => intro m; rw [List.foldl_cons]; exact Int.le_trans (latM_ge m n) (ih _)
  induction ns with
  | nil => cases hx
  | cons n ns ih =>
    intro m
    rw [List.foldl_cons]
    rcases List.mem_cons.1 hx with rfl | hx
    · refine Int.le_trans ?_ (hge ns _)
      unfold latM; rw [hk]; dsimp only; omega
    · exact ih hx _
section
variable {d : DK} {n : Nat} {s : List UInt8 × Nat} {lg : Option (List UInt8 × Nat)}
theorem GD.has (h : GD d.fs n s lg) : nm 99 n ∈ namesD d := mem_names.2 ⟨_, lk_memL h.c, rfl⟩
theorem GD.good (hn : n < 100) (h : GD d.fs n s lg) : ∀ x ∈ namesD d, goodN x := by
  intro x hx
  obtain ⟨u, hu, rfl⟩ := mem_names.1 hx
  rcases h.na u hu with h | ⟨k, hk, h⟩ | ⟨k, hk, h⟩
  · exact .inr (.inr (.inl h))
  · exact .inl ⟨k, by omega, h⟩
  · exact .inr (.inl ⟨k, hk, h⟩)
theorem GD.lat (hn : n < 100) (h : GD d.fs n s lg) : latN (namesD d) = n := by
  have h1 : (n : Int) ≤ latN (namesD d) := lat_le _ h.has (numOf_nm hn) _
  rcases latN_cases (namesD d) with h2 | ⟨k, hk, h2, h3⟩
  · omega
  · obtain ⟨u, hu, hx⟩ := mem_names.1 h3
    rcases h.na u hu with h | ⟨k', hk', h⟩ | ⟨k', hk', h⟩
    · exact absurd (hx.symm.trans h) (nm_t k)
    · have := (nm_inj hk (by omega) (hx.symm.trans h)).2; omega
    · exact absurd (hx.symm.trans h) (nm_ne k k')
theorem GD.gen (hn : n < 100) (h : GD d.fs n s lg) : opN d = n := by unfold opN; rw [h.lat hn]; rfl
theorem GD.sta (hn : n < 100) (hd : d.down = false) (h : GD d.fs n s lg) : opB d = unP s.1 := by
  unfold opB
  rw [if_neg (by rw [h.lat hn]; omega), h.gen hn]
  unfold rdB
  rw [if_neg (by rw [hd]; decide), h.c]; rfl
theorem GD.old (hn : n < 100) (h : GD d.fs n s lg) : nm 99 n ∉ opO d ∧ nm 108 n ∉ opO d := by
  unfold opO latO
  rw [h.lat hn]
  refine ⟨fun hx => ?_, fun hx => ?_⟩
  · have := (List.mem_filter.1 hx).2
    unfold isOld at this
    rw [numOf_nm hn, show numOf 108 (nm 99 n) = none from numOf_ne (by decide), decide_eq_false (nm_t n)] at this
    simp at this
  · have := (List.mem_filter.1 hx).2
    unfold isOld at this
    rw [numOf_nm hn, show numOf 99 (nm 108 n) = none from numOf_ne (by decide), decide_eq_false (nm_t' n)] at this
    simp at this
end
section
variable {fs : List FE} {n : Nat} {s : List UInt8 × Nat} {lg : Option (List UInt8 × Nat)}
theorem GD.put (hn : n < 100) (h : GD fs n s lg) (v : List UInt8 × Nat) : GD (putL fs (nm 108 n) v) n s (some v) := by
  refine ⟨putL_ok h.key _ _, fun u hu => ?_, ?_, ?_⟩
  · rcases putL_memF hu with hu | rfl
    · exact h.na u hu
    · exact .inr (.inr ⟨n, hn, rfl⟩)
  · rw [lkL_put h.key, if_neg (nm_ne n n)]; exact h.c
  · rw [lkL_put h.key, if_pos rfl]
theorem delF_lk {x : List UInt8} : ∀ (ns : List (List UInt8)) (fs : List FE), x ∉ ns → lkL (ns.foldl delL fs) x = lkL fs x
  | [], _, _ => rfl
  | y :: ns, fs, h => by
    rw [List.foldl_cons, delF_lk ns _ (fun h2 => h (List.mem_cons_of_mem _ h2))]
    exact lkL_del y x (fun h2 => h (by rw [h2]; simp))
theorem delF_mem : ∀ (ns : List (List UInt8)) (fs : List FE), ∀ u ∈ ns.foldl delL fs, u ∈ fs
  | [], _, u, h => h
  | y :: ns, fs, u, h => by
    rw [List.foldl_cons] at h
    exact (List.mem_filter.1 (delF_mem ns _ u h)).1
theorem delF_ok : ∀ (ns : List (List UInt8)) (fs : List FE), keysOK fs → keysOK (ns.foldl delL fs)
  | [], _, h => h
  | y :: ns, fs, h => by rw [List.foldl_cons]; exact delF_ok ns _ (delL_ok h y)
theorem GD.drop (h : GD fs n s lg) {ns : List (List UInt8)} (h1 : nm 99 n ∉ ns) (h2 : nm 108 n ∉ ns) : GD (ns.foldl delL fs) n s lg :=
  ⟨delF_ok _ _ h.key, fun u hu => h.na u (delF_mem _ _ u hu), by rw [delF_lk _ _ h1]; exact h.c, by rw [delF_lk _ _ h2]; exact h.l⟩
end
def LG (R : List (List UInt8)) (F : Nat) (lg : Option (List UInt8 × Nat)) : Prop :=
  (lg = none ∧ F = 0) ∨ ∃ m f, lg = some ((frs R).take m, f) ∧ (frs (R.take F)).length ≤ f ∧ f ≤ m ∧ m ≤ (frs R).length
end Go.Proofs.YtkleenllkjodoaaGreatDoor
namespace Go.Proofs.YtkleenllkjodoaaGreatDoor
open Go Go.SX
section
variable {d : DK} {n : Nat} {s : List UInt8 × Nat} {lg : Option (List UInt8 × Nat)} {R : List (List UInt8)} {F : Nat}
theorem fileD_of {d : DK} {x b : List UInt8} {f : Nat} (h : lkL d.fs x = some (b, f)) : fileD d x = (b, f) := by unfold fileD; rw [h]; rfl
theorem rd_of {d : DK} {x b : List UInt8} {f : Nat} (hd : d.down = false) (h : lkL d.fs x = some (b, f)) : rdE d x = 0 ∧ rdB d x = b := by
  refine ⟨by unfold rdE; rw [if_neg (by rw [hd]; decide), if_neg (by rw [h]; simp)], by unfold rdB; rw [if_neg (by rw [hd]; decide), h]; rfl⟩
theorem tmE_live {d : DK} (h : live d) {n : List UInt8} (hh : hasD d n) : tmE d n = 0 := by unfold tmE; rw [h.sp, if_neg (by decide), if_pos hh]
theorem tmS_live {d : DK} (h : live d) {n : List UInt8} (hh : hasD d n) (k : Nat) : tmS d n k = tmD d n k := by unfold tmS; rw [tmE_live h hh, if_pos rfl, h.sd]
theorem lo_live (hl : live d) (hn : n < 100) {b : List UInt8} {f : Nat} (h : GD d.fs n s (some (b, f))) (hf : f ≤ b.length) : (loD d (nm 108 n)).1 = 0 ∧ live (loD d (nm 108 n)).2 ∧ GD (loD d (nm 108 n)).2.fs n s (some (b, b.length)) ∧ (loD d (nm 108 n)).2.room = d.room := by
  have hff := fileD_of h.l
  have hh : hasD d (nm 108 n) := by unfold hasD; rw [h.l]; simp
  unfold loD looseD
  rw [hff]
  split
  · dsimp only
    rw [fmE_live hl hh, fmS_live hl hh]
    refine ⟨rfl, fmD_live hl _, ?_, rfl⟩
    have := h.put hn (b, b.length)
    unfold fmD
    rw [hff]
    exact this
  · next h0 =>
    dsimp only at h0 ⊢
    have : f = b.length := by omega
    exact ⟨rfl, hl, by rw [← this]; exact h, rfl⟩
theorem open_live (hl : live d) (hn : n < 100) (h : GD d.fs n s lg) (hf : ∀ v, lg = some v → v.2 ≤ v.1.length) (hs : unP s.1 ≠ none) :
    opnE d = 0 ∧ live (opnS d) ∧ opR d = (match lg with | none => [] | some v => logF v.1) ∧
      GD (opnS d).fs n s (lg.map fun v => (v.1.take (frsL (logF v.1)), frsL (logF v.1))) ∧ (opnS d).room = d.room ∧ ∀ u ∈ (opnS d).fs, u.1 = nm 99 n ∨ u.1 = nm 108 n := by
  have hd := hl.d
  have hB := h.sta hn hd
  have hL : (opL d).1 = 0 ∧ live (opL d).2 ∧ opR d = (match lg with | none => [] | some v => logF v.1) ∧ GD (opL d).2.fs n s (lg.map fun v => (v.1.take (frsL (logF v.1)), frsL (logF v.1))) ∧ (opL d).2.room = d.room ∧ ∀ x, (∃ u ∈ (opL d).2.fs, u.1 = x) → ∃ u ∈ d.fs, u.1 = x := by
    unfold opR opL
    rw [h.gen hn]
    cases lg with
    | none =>
      have he : rdE d (nm 108 n) = 6 := by unfold rdE; rw [if_neg (by rw [hd]; decide), if_pos h.l]
      have hlg : logD d (nm 108 n) = (0, d) := by unfold logD; rw [he, if_pos (by decide)]
      rw [hlg]
      refine ⟨rfl, hl, by unfold logR; rw [he, if_pos (.inl (by decide))], h, rfl, fun x hx => hx⟩
    | some v =>
      obtain ⟨b, f⟩ := v
      have hf := hf _ rfl
      dsimp only at hf
      obtain ⟨he, hb⟩ := rd_of hd h.l
      have hff := fileD_of h.l
      have hle := logF_le b
      have hh : hasD d (nm 108 n) := by unfold hasD; rw [h.l]; simp
      have hput : ∀ (d2 : DK) (v : List UInt8 × Nat), lkL d2.fs (nm 108 n) ≠ none → ∀ x, (∃ u ∈ putL d2.fs (nm 108 n) v, u.1 = x) → ∃ u ∈ d2.fs, u.1 = x := by
        rintro d2 v h2 x ⟨u, hu, rfl⟩
        rcases putL_memF hu with hu | rfl
        · exact ⟨u, hu, rfl⟩
        · obtain ⟨w, hw⟩ := Option.ne_none_iff_exists'.1 h2
          exact ⟨_, lk_memL hw, rfl⟩
      have hlo : ∀ (d2 : DK) b2 f2, lkL d2.fs (nm 108 n) = some (b2, f2) → live d2 → ∀ x, (∃ u ∈ (loD d2 (nm 108 n)).2.fs, u.1 = x) → ∃ u ∈ d2.fs, u.1 = x := by
        intro d2 b2 f2 h2 hl2 x hx
        unfold loD at hx
        split at hx
        · dsimp only at hx
          rw [fmS_live hl2 (by unfold hasD; rw [h2]; simp)] at hx
          exact hput d2 _ (by rw [h2]; simp) x hx
        · exact hx
      have key : (logD d (nm 108 n)).1 = 0 ∧ live (logD d (nm 108 n)).2 ∧ GD (logD d (nm 108 n)).2.fs n s (some (b.take (frsL (logF b)), frsL (logF b))) ∧ (logD d (nm 108 n)).2.room = d.room ∧ ∀ x, (∃ u ∈ (logD d (nm 108 n)).2.fs, u.1 = x) → ∃ u ∈ d.fs, u.1 = x := by
        unfold logD
        rw [he, if_neg (by decide), hb]
        split
        · next hlt =>
          rw [tmE_live hl hh, if_neg (by decide), tmS_live hl hh]
          have hg : GD (tmD d (nm 108 n) (frsL (logF b))).fs n s (some (b.take (frsL (logF b)), min f (frsL (logF b)))) := by
            have := h.put hn (b.take (frsL (logF b)), min f (frsL (logF b)))
            unfold tmD
            rw [hff]
            exact this
          have hl2 : live (tmD d (nm 108 n) (frsL (logF b))) := ⟨hl.l, hl.d⟩
          have hlen : (b.take (frsL (logF b))).length = frsL (logF b) := by rw [List.length_take]; omega
          obtain ⟨g1, g2, g3, g4⟩ := lo_live hl2 hn hg (by rw [hlen]; omega)
          rw [hlen] at g3
          exact ⟨g1, g2, g3, g4, fun x hx => hput d _ (by rw [h.l]; simp) x (hlo _ _ _ hg.l hl2 x hx)⟩
        · next hlt =>
          have e : frsL (logF b) = b.length := by omega
          rw [e, List.take_length]
          obtain ⟨g1, g2, g3, g4⟩ := lo_live hl hn h hf
          exact ⟨g1, g2, g3, g4, fun x hx => hlo _ _ _ h.l hl x hx⟩
      refine ⟨key.1, key.2.1, ?_, key.2.2.1, key.2.2.2⟩
      unfold logR
      rw [he, key.1, if_neg (by simp), hb]
  obtain ⟨l1, l2, l3, l4, l5, l6⟩ := hL
  have hold : ∀ u ∈ d.fs, u.1 ∉ opO d → u.1 = nm 99 n ∨ u.1 = nm 108 n := by
    intro u hu hno
    have hm : u.1 ∈ namesD d := mem_names.2 ⟨u, hu, rfl⟩
    have hi : isOld n u.1 = false := by
      by_cases hi : isOld n u.1 = true
      · exact absurd (by unfold opO latO; rw [h.lat hn]; exact List.mem_filter.2 ⟨hm, hi⟩) hno
      · simpa using hi
    rcases h.na u hu with e | ⟨k, hk, e⟩ | ⟨k, hk, e⟩
    · rw [e] at hi; unfold isOld at hi; rw [decide_eq_true (show tN = [116] from rfl)] at hi; simp at hi
    · left
      rw [e] at hi ⊢
      unfold isOld at hi
      rw [numOf_nm (by omega)] at hi
      simp at hi
      rw [show k = n by have := hi.1.2; omega]
    · right
      rw [e] at hi ⊢
      unfold isOld at hi
      rw [numOf_nm hk] at hi
      simp at hi
      rw [show k = n by have := hi.2; omega]
  have hE : opnE d = (opD d).1 := by unfold opnE; rw [if_neg (by rw [hd]; decide), if_neg (by rw [hB]; exact hs)]
  have hS : opnS d = (opD d).2 := by unfold opnS; rw [if_neg (by rw [hd]; decide), if_neg (by rw [hB]; exact hs)]
  rw [hE, hS]
  unfold opD
  by_cases ho : opO d = []
  · rw [if_neg (fun hh => hh.2 ho)]
    refine ⟨l1, l2, l3, l4, l5, fun u hu => ?_⟩
    obtain ⟨w, hw, e⟩ := l6 u.1 ⟨u, hu, rfl⟩
    rw [← e]
    exact hold w hw (by rw [ho]; simp)
  · rw [if_pos ⟨l1, ho⟩, drE_live l2, drS_live l2]
    refine ⟨rfl, ⟨l2.l, l2.d⟩, l3, ?_, l5, fun u hu => ?_⟩
    · exact l4.drop (h.old hn).1 (h.old hn).2
    · have hno : ∀ (ns : List (List UInt8)) (fs : List FE), ∀ u ∈ ns.foldl delL fs, u.1 ∉ ns := by
        intro ns
        induction ns with
        | nil => intro fs u _; simp
        | cons y ns ih =>
          intro fs u hu
          rw [List.foldl_cons] at hu
          have h1 := (List.mem_filter.1 (delF_mem ns _ u hu)).2
          have h2 := ih _ u hu
          simp at h1
          simp [h1, h2]
      obtain ⟨w, hw, e⟩ := l6 u.1 ⟨u, delF_mem _ _ u hu, rfl⟩
      rw [← e]
      exact hold w hw (by rw [e]; exact hno _ _ u hu)
end
end Go.Proofs.YtkleenllkjodoaaGreatDoor
namespace Go.Proofs.YtkleenllkjodoaaGreatDoor
open Go Go.SX
attribute [local irreducible] swp opsS thenS blockS retS CallsS St Ent YieldS anyS drawS
theorem bit_and1 (b i : Nat) : (b / 2 ^ i) &&& 1 = (b >>> i) &&& 1 := by rw [Nat.shiftRight_eq_div_pow]
theorem bitN_lt (b : Nat) {c : Nat} (hc : c < 4294967296) : ∀ i, bitN b i c < 4294967296
  | 0 => hc
  | i + 1 => by
    have h := bitN_lt b hc i
    have h2 : bitN b i c >>> 1 < 4294967296 := by rw [Nat.shiftRight_eq_div_pow]; omega
    show bit1 b (bitN b i c) i < _
    unfold bit1
    split
    · exact xor_lt h2 (by decide)
    · exact h2
set_option maxHeartbeats 2000000 in
theorem RSum_spec (u : YB) (L : List HP) (h : okY L u) (hl : u.bs.length ≤ 1000000000) :
    CallsS Tryz.prog 73 [u.val] L (fun r L' => r = .int .u32 (crcB u.bs) ∧ L' = L) := by
  refine CallsS.of_body Tryz.func73 rfl rfl rfl ?_
  have hv0 := h
  unfold okY at hv0
  rw [← flat_bC] at hv0
  refine Q.r ?_; (repeat (intro b1; refine Q.r ?_))
  refine swp_cutB (σ := Unit) (fun _ => [(3, .int .u32 (crcF 4294967295 u.bs))]) (fun _ => L) (fun _ => True) ?_ ?_
  · refine swp_loop (σ := Nat) (fun j => [(8, u.val), (9, .int .i64 u.bs.length), (3, .int .u32 (crcF 4294967295 (u.bs.take j))), (10, .int .i64 j)]) (fun _ => L)
      (fun j => j ≤ u.bs.length) (fun j => u.bs.length - j) 0 ⟨rfl, rfl, rfl, rfl, trivial⟩ (Ent.refl _) (Nat.zero_le _) ?_
    intro j hj
    have hc0 : crcF 4294967295 (u.bs.take j) < 4294967296 := crcF_lt _ (by decide)
    by_cases hjl : j < u.bs.length
    · obtain ⟨x, hxj⟩ := mem_get hjl
      obtain ⟨b2, o2, hab2, hr2⟩ := RdS.elem (g := bC) (fun _ => rfl) hv0 hxj rfl
      have hsn : crcF 4294967295 (u.bs.take (j + 1)) = crcS (crcF 4294967295 (u.bs.take j)) x := by rw [take_snoc hxj, crcF_app]; rfl
      generalize crcF 4294967295 (u.bs.take j) = cc at hc0 hsn
      have hx8 := x.toNat_lt
      unfold YB.val
      rw [hab2]
      refine Q.r ?_; (repeat (intro b1; refine Q.r ?_))
      refine swp_loop (σ := Nat) (fun i => [(5, B x), (8, .slice (some ⟨b2, o2, none⟩) u.bs.length u.c), (9, .int .i64 u.bs.length), (10, .int .i64 j), (3, .int .u32 (bitN x.toNat i cc)), (14, .int .i64 i)]) (fun _ => L)
        (fun i => i ≤ 8) (fun i => 8 - i) 0 ⟨rfl, rfl, rfl, rfl, rfl, rfl, trivial⟩ (Ent.refl _) (Nat.zero_le _) ?_
      intro i hi
      have hb := bitN_lt x.toNat hc0 i
      by_cases hi8 : i < 8
      · have hi8' : (i : Int) < 8 := by omega
        have hbn : bitN x.toNat (i + 1) cc = bit1 x.toNat (bitN x.toNat i cc) i := rfl
        generalize bitN x.toNat i cc = y at hb hbn
        have l1 : x.toNat / 2 ^ i < 4294967296 := Nat.lt_of_le_of_lt (Nat.div_le_self _ _) (by omega)
        have l2 : y / 2 ^ 1 < 4294967296 := by omega
        unfold B
        refine Q.r ?_; (repeat (intro b1; refine Q.r ?_))
        refine S.y (Y.shr rfl rfl (by show i ≤ 8; omega)) ?_
        refine S.y (Y.cv32 rfl l1) ?_
        refine S.y (Y.and32 (b := 1) rfl rfl l1 (by decide)) ?_
        rw [bit_and1]
        by_cases he : y &&& 1 = (x.toNat >>> i) &&& 1
        · have hne : ((y &&& 1 : Nat) : Int) = (((x.toNat >>> i) &&& 1 : Nat) : Int) := by rw [he]
          rw [← he]
          refine Q.r ?_; (repeat (intro b1; refine Q.r ?_))
          refine S.y (Y.and32 (b := 1) rfl rfl hb (by decide)) ?_
          refine Q.r ?_; (repeat (intro b1; refine Q.r ?_))
          refine S.y (Y.shr (b := 1) rfl rfl (by decide)) ?_
          refine Q.r ?_; (repeat (intro b1; refine Q.r ?_))
          exact ⟨i + 1, ⟨rfl, rfl, rfl, rfl, by rw [hbn]; unfold bit1; rw [if_neg (fun h => h he), Nat.shiftRight_eq_div_pow]; rfl, rfl, trivial⟩, Ent.refl _, hi8, by omega⟩
        · have hne : ¬ ((y &&& 1 : Nat) : Int) = (((x.toNat >>> i) &&& 1 : Nat) : Int) := by omega
          refine Q.r ?_; (repeat (intro b1; refine Q.r ?_))
          refine S.y (Y.and32 (b := 1) rfl rfl hb (by decide)) ?_
          refine Q.r ?_; (repeat (intro b1; refine Q.r ?_))
          refine S.y (Y.shr (b := 1) rfl rfl (by decide)) ?_
          refine S.y (Y.xor32 (b := 3988292384) rfl rfl l2 (by decide)) ?_
          refine Q.r ?_; (repeat (intro b1; refine Q.r ?_))
          exact ⟨i + 1, ⟨rfl, rfl, rfl, rfl, by rw [hbn]; unfold bit1; rw [if_pos he, Nat.shiftRight_eq_div_pow]; rfl, rfl, trivial⟩, Ent.refl _, hi8, by omega⟩
      · have hie : i = 8 := by omega
        subst hie
        rw [bit8]
        refine Q.r ?_; (repeat (intro b1; refine Q.r ?_))
        exact ⟨j + 1, ⟨by rw [← hab2]; rfl, rfl, by rw [hsn]; rfl, rfl, trivial⟩, Ent.refl _, hjl, by omega⟩
    · have hje : j = u.bs.length := by omega
      subst hje
      refine Q.r ?_; (repeat (intro b1; refine Q.r ?_))
      exact ⟨(), ⟨by rw [List.take_length]; rfl, trivial⟩, Ent.refl _, trivial⟩
  · intro _ _
    have hc0 : crcF 4294967295 u.bs < 4294967296 := crcF_lt _ (by decide)
    refine Q.r ?_; (repeat (intro b1; refine Q.r ?_))
    refine S.y (Y.xor32 rfl rfl hc0 (by decide)) ?_
    refine Q.r ?_; (repeat (intro b1; refine Q.r ?_))
    exact N.r1 (RV.tmp rfl RV.nil) (Ent.refl _) ⟨rfl, rfl⟩
end Go.Proofs.YtkleenllkjodoaaGreatDoor
namespace Go.Proofs.YtkleenllkjodoaaGreatDoor
open Go Go.SX
attribute [local irreducible] swp opsS thenS blockS retS CallsS St Ent YieldS anyS drawS
theorem numL_drop {bs : List UInt8} {i : Nat} {x : UInt8} (h : bs[i]? = some x) : numL (bs.drop i) = numL (bs.drop (i + 1)) * 256 + x.toNat := by
  obtain ⟨hl, hx⟩ := List.getElem?_eq_some_iff.1 h
  rw [List.drop_eq_getElem_cons hl, hx]; rfl
theorem numL_lt4 {bs : List UInt8} (h : bs.length ≤ 4) : numL bs < 4294967296 := Nat.lt_of_lt_of_le (numL_lt bs) (Nat.pow_le_pow_right (by decide) h)
set_option maxHeartbeats 2000000 in
theorem RNum_spec (u : YB) (L : List HP) (h : okY L u) (hl : u.bs.length ≤ 4) :
    CallsS Tryz.prog 72 [u.val] L (fun r L' => r = .int .u64 (numL u.bs) ∧ L' = L) := by
  refine CallsS.of_body Tryz.func72 rfl rfl rfl ?_
  have hv0 := h
  unfold okY at hv0
  rw [← flat_bC] at hv0
  refine Q.r ?_; (repeat (intro b1; refine Q.r ?_))
  refine swp_cutB (σ := Unit) (fun _ => [(3, .int .u64 (numL u.bs))]) (fun _ => L) (fun _ => True) ?_ ?_
  · refine swp_loop (σ := Nat) (fun j => [(0, u.val), (3, .int .u64 (numL (u.bs.drop j))), (4, .int .i64 ((j : Int) - 1))]) (fun _ => L)
      (fun j => j ≤ u.bs.length) (fun j => j) u.bs.length ⟨rfl, by rw [List.drop_length]; rfl, rfl, trivial⟩ (Ent.refl _) (Nat.le_refl _) ?_
    intro j hj
    rcases j with _ | i
    · refine Q.r ?_; (repeat (intro b1; refine Q.r ?_))
      exact ⟨(), ⟨rfl, trivial⟩, Ent.refl _, trivial⟩
    · rw [show ((i + 1 : Nat) : Int) - 1 = (i : Int) by omega]
      obtain ⟨x, hx⟩ := mem_get (show i < u.bs.length from hj)
      obtain ⟨b2, o2, hab2, hr2⟩ := RdS.elem (g := bC) (fun _ => rfl) hv0 hx rfl
      have hn := numL_drop hx
      have h4 : numL (u.bs.drop i) < 4294967296 := numL_lt4 (by rw [List.length_drop]; omega)
      have hx8 := x.toNat_lt
      unfold YB.val
      rw [hab2]
      refine Q.r ?_; (repeat (intro b1; refine Q.r ?_))
      refine S.y (Y.mul rfl rfl) ?_
      rw [wrap_u64 (by omega) (by omega)]
      refine Q.r ?_; (repeat (intro b1; refine Q.r ?_))
      refine S.y (Y.cvi rfl) ?_
      rw [wrap_u64 (by omega) (by omega)]
      refine S.y (Y.add rfl rfl) ?_
      rw [wrap_u64 (by omega) (by omega), show (numL (u.bs.drop (i + 1)) : Int) * 256 + (x.toNat : Int) = ((numL (u.bs.drop i) : Nat) : Int) by omega]
      refine Q.r ?_; (repeat (intro b1; refine Q.r ?_))
      exact ⟨i, ⟨by rw [← hab2]; rfl, rfl, rfl, trivial⟩, Ent.refl _, by omega, by omega⟩
  · intro _ _
    refine Q.r ?_; (repeat (intro b1; refine Q.r ?_))
    exact N.r1 (RV.tmp rfl RV.nil) (Ent.refl _) ⟨rfl, rfl⟩
theorem RCopyY_spec (a : Option Addr) (c : Nat) (bs : List UInt8) (L : List HP) (h : RdS L a bs.length 1 (bs.map B)) (hc : bs.length ≤ c) (hn : bs.length ≤ 100000000000) :
    CallsS Tryz.prog 60 [.slice a bs.length c] L (fun v L' => ∃ a' c', v = .slice a' bs.length c' ∧ L' = slO 5 1 a' bs.length c' (bs.map B) :: L) := by
  refine CallsS.of_body Tryz.func60 rfl rfl rfl ?_
  repeat (first | (refine GQ.y ?_; refine Q.y ?_) | refine Q.go ?_ | (refine GQ.g ?_; refine Q.gq ?_) | (refine GQ.s ?_; refine Q.st ?_))
  refine S.bs rfl rfl rfl rfl rfl (fun b => ?_)
  refine opsS_ent (slO_fold (sz := 1) (m := 0) rfl) ?_
  repeat (first | (refine GQ.y ?_; refine Q.y ?_) | refine Q.go ?_ | (refine GQ.g ?_; refine Q.gq ?_) | (refine GQ.s ?_; refine Q.st ?_))
  refine S.app0 rfl rfl rfl (SrcS.rd h.sub (B_one _)) (by rfl) (by omega) (by omega) (fun a' c' => ?_)
  repeat (first | (refine GQ.y ?_; refine Q.y ?_) | refine Q.go ?_ | (refine GQ.g ?_; refine Q.gq ?_) | (refine GQ.s ?_; refine Q.st ?_))
  refine N.r1 (RV.tmp rfl RV.nil) ?_ ⟨a', c', rfl, rfl⟩
  repeat (first | exact Ent.refl _ | exact Ent.nil | refine Ent.pick ?_ | refine Ent.nilS ?_ | refine Ent.nilM ?_ | refine Ent.drop ?_)
def cpR (M : Nat → Option Obj) (L0 : List HP) (bs : List UInt8) (r : Value) (L' : List HP) : Prop := ∃ v : YB, ∃ M', r = v.val ∧ v.bs = bs ∧ okYM M' v ∧ v.bs.length ≤ v.c ∧ leM M M' ∧ L' = roM M' :: L0
theorem RCopyM_spec (v : YB) (M : Nat → Option Obj) (L L0 : List HP) [hP : PickM L M L0] (h : okY L v) (hc : v.bs.length ≤ v.c) (hn : v.bs.length ≤ 100000000000) :
    CallsS Tryz.prog 60 [v.val] L (cpR M L0 v.bs) := by
  refine (RCopyY_spec v.a v.c v.bs L h hc hn).post fun r L' hr => ?_
  obtain ⟨a', c', rfl, rfl⟩ := hr
  refine EntX.ent slO_cap (EntX.pure fun hcap => ?_)
  exact EntX.abs a' fun M' hl hs => EntX.done ⟨⟨a', c', v.bs⟩, M', rfl, rfl, hs, hcap, hl, rfl⟩
end Go.Proofs.YtkleenllkjodoaaGreatDoor
namespace Go.Proofs.YtkleenllkjodoaaGreatDoor
open Go Go.SX
attribute [local irreducible] swp opsS thenS blockS retS CallsS St Ent YieldS anyS drawS
set_option maxHeartbeats 4000000 in
theorem RNext_spec (a : Option Addr) (c : Nat) (bs : List UInt8) (M : Nat → Option Obj) (L0 : List HP) (h : SlM M a bs.length 1 (bs.map B)) (hc : bs.length ≤ c) (hb : bs.length ≤ 1000000) :
    CallsS Tryz.prog 53 [.slice a bs.length c] (roM M :: L0) (nxR' M L0 bs) := by
  refine CallsS.of_body Tryz.func53 rfl rfl rfl ?_
  by_cases h6 : bs.length < 6
  · refine Q.r ?_; (repeat (intro b1; refine Q.r ?_))
    have e : nxE bs = 2 := by unfold nxE; rw [if_pos h6]
    exact N.r3 (RV.tmp rfl (RV.tmp rfl (RV.tmp rfl RV.nil))) (Ent.refl _) ⟨⟨none, 0, []⟩, ⟨none, 0, []⟩, M, by rw [e]; rfl, by rw [e]; rfl, by rw [e]; rfl, SlM.nil, SlM.nil, Nat.le_refl _, Nat.le_refl _, leM.refl _, rfl⟩
  have hrd : RdS (roM M :: L0) a bs.length 1 (bs.map B) := SlM.rd h
  obtain ⟨b, o, rfl, hr⟩ := hrd.2.resolve_left (by omega)
  have hno : ∀ e : Int, e ≠ 0 → nxE bs = e → nxR' M L0 bs (.tuple #[.slice none 0 0, .slice none 0 0, .int .i64 e]) (roM M :: L0) := fun e he hq =>
    ⟨⟨none, 0, []⟩, ⟨none, 0, []⟩, M, by rw [hq]; rfl, by rw [hq, if_neg he], by rw [hq, if_neg he], SlM.nil, SlM.nil, Nat.le_refl _, Nat.le_refl _, leM.refl _, rfl⟩
  refine Q.r ?_; (repeat (intro b1; refine Q.r ?_))
  refine S.y (Y.slB (l := 4) (h := 6) rfl rfl rfl rfl (by omega) (by omega) (by omega)) ?_
  have h46 := okYM.cut h hc 4 2 (by omega)
  have e46 : 6 - 4 = ((bs.drop 4).take 2).length := by rw [List.length_take, List.length_drop]; omega
  rw [e46]
  refine S.cr rfl (RNum_spec ⟨some ⟨b, if c = 4 then o else o + 4 * 1, none⟩, c - 4, (bs.drop 4).take 2⟩ _ h46.rd (by show ((bs.drop 4).take 2).length ≤ 4; omega)) ?_
  rintro _ _ ⟨rfl, rfl⟩
  have hnl : numL ((bs.drop 4).take 2) < 65536 := by
    have := numL_lt ((bs.drop 4).take 2)
    rw [← e46] at this; exact this
  have hnn : numL ((bs.drop 4).take 2) = nxN bs := rfl
  rw [hnn] at hnl ⊢
  refine S.y (Y.cvi rfl) ?_
  rw [wrap64 (by omega)]
  have hE : nxE bs = if 4096 < nxN bs then 3 else if bs.length - 6 < nxN bs then 2 else if crcB ((bs.drop 4).take (2 + nxN bs)) ≠ numL (bs.take 4) then 5 else 0 := by
    conv => lhs; unfold nxE
    rw [if_neg h6]
  have hnB : nxB bs = (bs.drop 6).take (nxN bs) := rfl
  have hnR : nxR bs = bs.drop (6 + nxN bs) := rfl
  generalize nxN bs = nn at *
  by_cases h4 : 4096 < nn
  · rw [if_pos h4] at hE
    refine Q.r ?_; (repeat (intro b1; refine Q.r ?_))
    exact N.r3 (RV.tmp rfl (RV.tmp rfl (RV.tmp rfl RV.nil))) (Ent.refl _) (hno 3 (by decide) hE)
  rw [if_neg h4] at hE
  by_cases h5 : bs.length - 6 < nn
  · rw [if_pos h5] at hE
    have h5' : (bs.length : Int) < 6 + (nn : Int) := by omega
    refine Q.r ?_; (repeat (intro b1; refine Q.r ?_))
    exact N.r3 (RV.tmp rfl (RV.tmp rfl (RV.tmp rfl RV.nil))) (Ent.refl _) (hno 2 (by decide) hE)
  rw [if_neg h5] at hE
  have h5' : ¬ (bs.length : Int) < 6 + (nn : Int) := by omega
  refine Q.r ?_; (repeat (intro b1; refine Q.r ?_))
  have hb4 := okYM.cut h hc 4 (2 + nn) (by omega)
  have el : 6 + nn - 4 = ((bs.drop 4).take (2 + nn)).length := by rw [List.length_take, List.length_drop]; omega
  have hb0 : okYM M ⟨some ⟨b, o, none⟩, c, bs.take 4⟩ := by
    have := SlM.take h (k := 4) (by omega)
    unfold okYM
    dsimp only
    rw [List.length_take, Nat.min_eq_left (by omega), List.map_take]
    exact this
  have el0 : (4 : Nat) = (bs.take 4).length := by rw [List.length_take]; omega
  refine Q.dgo [] [4, 8] [] [0, 1, 2, 3, 6, 7, 4, 5, 8, 9] ?_
  refine Q.rd ?_; (repeat (intro b1; refine Q.rd ?_))
  refine D.yp rfl rfl rfl (Y.slB (l := 4) (h := 6 + nn) rfl rfl rfl rfl (by omega) (by omega) (by omega)) ?_
  rw [el]
  refine Q.rd ?_; (repeat (intro b1; refine Q.rd ?_))
  refine D.yp rfl rfl rfl (Y.slT (h := 4) rfl rfl rfl (by omega)) ?_
  refine D.e rfl rfl rfl ?_
  refine S.cr rfl (RSum_spec ⟨some ⟨b, if c = 4 then o else o + 4 * 1, none⟩, c - 4, (bs.drop 4).take (2 + nn)⟩ _ hb4.rd (by show ((bs.drop 4).take (2 + nn)).length ≤ _; omega)) ?_
  rintro _ _ ⟨rfl, rfl⟩
  dsimp only
  have hs1 := crcB_lt ((bs.drop 4).take (2 + nn))
  have hs2 : numL (bs.take 4) < 4294967296 := numL_lt4 (by rw [List.length_take]; omega)
  refine Q.r ?_; (repeat (intro b1; refine Q.r ?_))
  refine Q.rd ?_; (repeat (intro b1; refine Q.rd ?_))
  refine D.yp rfl rfl rfl (Y.cvi rfl) ?_
  rw [wrap_u64 (by omega) (by omega)]
  refine Q.rd ?_; (repeat (intro b1; refine Q.rd ?_))
  refine D.e rfl rfl rfl ?_
  conv in (occs := 1) (Value.slice (some ⟨b, o, none⟩) 4 c) => rw [el0]
  refine S.cr rfl (RNum_spec ⟨some ⟨b, o, none⟩, c, bs.take 4⟩ _ hb0.rd (by show (bs.take 4).length ≤ 4; omega)) ?_
  rintro _ _ ⟨rfl, rfl⟩
  dsimp only
  refine Q.r ?_; (repeat (intro b1; refine Q.r ?_))
  by_cases h7 : crcB ((bs.drop 4).take (2 + nn)) ≠ numL (bs.take 4)
  · rw [if_pos h7] at hE
    have h7' : ¬ ((crcB ((bs.drop 4).take (2 + nn)) : Nat) : Int) = (numL (bs.take 4) : Nat) := by omega
    refine Q.rd ?_; (repeat (intro b1; refine Q.rd ?_))
    refine Q.r ?_; (repeat (intro b1; refine Q.r ?_))
    exact N.r3 (RV.tmp rfl (RV.tmp rfl (RV.tmp rfl RV.nil))) (Ent.refl _) (hno 5 (by decide) hE)
  rw [if_neg h7] at hE
  have h7' : ((crcB ((bs.drop 4).take (2 + nn)) : Nat) : Int) = (numL (bs.take 4) : Nat) := by omega
  refine Q.rd ?_; (repeat (intro b1; refine Q.rd ?_))
  refine Q.r ?_; (repeat (intro b1; refine Q.r ?_))
  refine Q.dgo [] [4, 9] [] [0, 1, 2, 3, 5, 6, 7, 8, 4, 9, 10, 11, 12] ?_
  refine Q.rd ?_; (repeat (intro b1; refine Q.rd ?_))
  refine D.yp rfl rfl rfl (Y.slB (l := 6) (h := 6 + nn) rfl rfl rfl rfl (by omega) (by omega) (by omega)) ?_
  have hb6 := okYM.cut h hc 6 nn (by omega)
  have hbt := okYM.tail h hc (6 + nn) (by omega)
  have el6 : 6 + nn - 6 = ((bs.drop 6).take nn).length := by rw [List.length_take, List.length_drop]; omega
  have elt : bs.length - (6 + nn) = (bs.drop (6 + nn)).length := by rw [List.length_drop]
  rw [el6]
  refine Q.rd ?_; (repeat (intro b1; refine Q.rd ?_))
  refine D.yp rfl rfl rfl (Y.slF (l := 6 + nn) rfl rfl (by omega) (by omega)) ?_
  rw [elt]
  refine Q.rd ?_; (repeat (intro b1; refine Q.rd ?_))
  refine D.e rfl rfl rfl ?_
  refine S.cr rfl (RCopyM_spec ⟨some ⟨b, if c = 6 then o else o + 6 * 1, none⟩, c - 6, (bs.drop 6).take nn⟩ M _ _ hb6.rd (by show ((bs.drop 6).take nn).length ≤ c - 6; omega) (by show ((bs.drop 6).take nn).length ≤ _; omega)) ?_
  rintro _ _ ⟨v, M1, rfl, hv, hvo, hvc, hl1, rfl⟩
  refine Q.r ?_; (repeat (intro b1; refine Q.r ?_))
  refine Q.rd ?_; (repeat (intro b1; refine Q.rd ?_))
  refine D.e rfl rfl rfl ?_
  refine S.cr rfl (RCopyM_spec ⟨some ⟨b, if c = 6 + nn then o else o + (6 + nn) * 1, none⟩, c - (6 + nn), bs.drop (6 + nn)⟩ M1 _ _ (hbt.mono hl1).rd (by show (bs.drop (6 + nn)).length ≤ c - (6 + nn); omega) (by show (bs.drop (6 + nn)).length ≤ _; omega)) ?_
  rintro _ _ ⟨w, M2, rfl, hw, hwo, hwc, hl2, rfl⟩
  dsimp only at hv hw
  refine Q.r ?_; (repeat (intro b1; refine Q.r ?_))
  refine Q.rd ?_; (repeat (intro b1; refine Q.rd ?_))
  refine Q.r ?_; (repeat (intro b1; refine Q.r ?_))
  refine N.r3 (RV.tmp rfl (RV.tmp rfl (RV.tmp rfl RV.nil))) ?_ ⟨v, w, M2, by rw [hE], by rw [hE, if_pos rfl, hnB, hv], by rw [hE, if_pos rfl, hnR, hw], hvo.mono hl2, hwo, hvc, hwc, hl1.trans hl2, rfl⟩
  repeat (first | exact Ent.refl _ | exact Ent.nil | refine Ent.pick ?_ | refine Ent.nilS ?_ | refine Ent.nilM ?_ | refine Ent.drop ?_)
end Go.Proofs.YtkleenllkjodoaaGreatDoor
namespace Go.Proofs.YtkleenllkjodoaaGreatDoor
open Go Go.SX
attribute [local irreducible] swp opsS thenS blockS retS CallsS St Ent YieldS anyS drawS
set_option maxHeartbeats 2000000 in
theorem RRecords_spec (u : YB) (M : Nat → Option Obj) (L0 : List HP) (h : okYM M u) (hc : u.bs.length ≤ u.c) (hb : u.bs.length ≤ 1000000) :
    CallsS Tryz.prog 23 [u.val] (roM M :: L0) (fun r L' => ∃ a' c', r = .tuple #[.slice a' (logF u.bs).length c', .int .i64 (frsL (logF u.bs))] ∧ rowsR M L0 (logF u.bs) a' c' L') := by
  refine CallsS.of_body Tryz.func23 rfl rfl rfl ?_
  refine Q.r ?_; (repeat (intro b1; refine Q.r ?_))
  refine swp_loop (σ := List YB × YB × (Nat → Option Obj) × Option Addr × Nat) (fun s => [(5, .int .i64 u.bs.length), (0, s.2.1.val), (4, .slice s.2.2.2.1 s.1.length s.2.2.2.2)])
    (fun s => slO 31 1 s.2.2.2.1 s.1.length s.2.2.2.2 (s.1.flatMap YB.cells) :: roM s.2.2.1 :: L0)
    (fun s => frsL (s.1.map YB.bs) + s.2.1.bs.length = u.bs.length ∧ s.1.map YB.bs ++ logF s.2.1.bs = logF u.bs ∧ okYs s.2.2.1 s.1 ∧ okYM s.2.2.1 s.2.1 ∧ s.2.1.bs.length ≤ s.2.1.c ∧ leM M s.2.2.1) (fun s => s.2.1.bs.length) ([], u, M, none, 0) ⟨rfl, rfl, rfl, trivial⟩ slO_nil ⟨Nat.zero_add _, rfl, (fun v hv => by cases hv), h, hc, leM.refl _⟩ ?_
  rintro ⟨vs, w, M1, a1, c1⟩ ⟨hat, hall, hok, hwo, hwc, hl⟩
  dsimp only at *
  have hlen := frsL_ge (vs.map YB.bs)
  rw [List.length_map] at hlen
  refine Q.r ?_; (repeat (intro b1; refine Q.r ?_))
  refine S.cq (A := roM M1) rfl (RNext_spec w.a w.c w.bs M1 _ hwo hwc (by omega)) ?_
  rintro _ _ ⟨v, x, M2, rfl, hv, hx, hvo, hxo, hvc, hxc, hl2, rfl⟩
  by_cases he : nxE w.bs = 0
  · rw [if_pos he] at hv hx
    have hn := nxE_ok he
    have hbl := nxB_len he
    by_cases h0 : v.bs.length = 0
    · refine Q.r ?_; (repeat (intro b1; refine Q.r ?_))
      have e : logF u.bs = vs.map YB.bs := by rw [← hall, logF_no (fun hh => hh.2 (by rw [← hv]; exact List.length_eq_zero_iff.1 h0)), List.append_nil]
      refine N.r2 (RV.tmp rfl (RV.tmp rfl RV.nil)) ?_ ⟨a1, c1, by rw [e, List.length_map]; exact congrArg Value.tuple (by rw [show (u.bs.length : Int) - (w.bs.length : Int) = (frsL (vs.map YB.bs) : Nat) by omega]), vs, M2, e.symm, hok.mono hl2, hl.trans hl2, rfl⟩
      repeat (first | exact Ent.refl _ | exact Ent.nil | refine Ent.pick ?_ | refine Ent.nilS ?_ | refine Ent.nilM ?_ | refine Ent.drop ?_)
    · refine Q.r ?_; (repeat (intro b1; refine Q.r ?_))
      refine S.app rfl rfl (SrcS.sl RdC.row (by rfl) (by rfl)) (by rfl) (by omega) (by omega) (fun a7 c7 => ?_)
      refine Q.r ?_; (repeat (intro b1; refine Q.r ?_))
      have hb2 : nxB w.bs ≠ [] := fun hh => h0 (by rw [hv, hh]; rfl)
      have hxl : x.bs.length + (6 + v.bs.length) = w.bs.length := by rw [hx, hv, hbl]; unfold nxR; rw [List.length_drop]; omega
      have hk2 : frsL ((vs ++ [v]).map YB.bs) = frsL (vs.map YB.bs) + (6 + v.bs.length) := by rw [List.map_append, frsL_app]; exact congrArg (_ + ·) (frsL_one _)
      refine ⟨(vs ++ [v], x, M2, a7, c7), ⟨rfl, rfl, congrArg some (by simp), trivial⟩, ?_, ⟨?_, ?_, ?_, hxo, hxc, hl.trans hl2⟩, by dsimp only; omega⟩
      · dsimp only
        rw [len_snoc, flat_snoc]
        repeat (first | exact Ent.refl _ | exact Ent.nil | refine Ent.pick ?_ | refine Ent.nilS ?_ | refine Ent.nilM ?_ | refine Ent.drop ?_)
      · dsimp only
        rw [hk2]; omega
      · dsimp only
        rw [← hall, logF_ok he hb2, List.map_append, List.append_assoc, hx]
        refine congrArg _ ?_
        show v.bs :: _ = _
        rw [hv]; rfl
      · intro y hy
        rcases List.mem_append.1 hy with hy | hy
        · exact (hok.mono hl2) y hy
        · rw [List.mem_singleton.1 hy]; exact ⟨hvo, hvc⟩
  · refine Q.r ?_; (repeat (intro b1; refine Q.r ?_))
    have e : logF u.bs = vs.map YB.bs := by rw [← hall, logF_no (fun hh => he hh.1), List.append_nil]
    refine N.r2 (RV.tmp rfl (RV.tmp rfl RV.nil)) ?_ ⟨a1, c1, by rw [e, List.length_map]; exact congrArg Value.tuple (by rw [show (u.bs.length : Int) - (w.bs.length : Int) = (frsL (vs.map YB.bs) : Nat) by omega]), vs, M2, e.symm, hok.mono hl2, hl.trans hl2, rfl⟩
    repeat (first | exact Ent.refl _ | exact Ent.nil | refine Ent.pick ?_ | refine Ent.nilS ?_ | refine Ent.nilM ?_ | refine Ent.drop ?_)
def rdF (acc : List UInt8) (short : Bool) (p : List UInt8) : Option (List UInt8) :=
  if h : nxE p = 0 then (if nxB p = [] then (if nxR p = [] then some acc else none) else if short then none else rdF (acc ++ nxB p) (decide ((nxB p).length < 4096)) (nxR p)) else none
termination_by p.length
decreasing_by exact nxR_lt h
theorem rdF_no {acc : List UInt8} {short : Bool} {p : List UInt8} (h : nxE p ≠ 0) : rdF acc short p = none := by rw [rdF, dif_neg h]
theorem rdF_end {acc : List UInt8} {short : Bool} {p : List UInt8} (h : nxE p = 0) (h2 : nxB p = []) : rdF acc short p = if nxR p = [] then some acc else none := by rw [rdF, dif_pos h, if_pos h2]
theorem rdF_go {acc : List UInt8} {short : Bool} {p : List UInt8} (h : nxE p = 0) (h2 : nxB p ≠ []) : rdF acc short p = if short then none else rdF (acc ++ nxB p) (decide ((nxB p).length < 4096)) (nxR p) := by rw [rdF, dif_pos h, if_neg h2]
def rdR (M : Nat → Option Obj) (L0 : List HP) (o : Option (List UInt8)) (r : Value) (L' : List HP) : Prop := ∃ v M', r = .tuple #[YB.val v, .bool o.isSome] ∧ (∀ s, o = some s → v.bs = s) ∧ okYM M' v ∧ v.bs.length ≤ v.c ∧ leM M M' ∧ L' = roM M' :: L0
set_option maxHeartbeats 2000000 in
theorem RRead_spec (u : YB) (M : Nat → Option Obj) (L0 : List HP) (h : okYM M u) (hc : u.bs.length ≤ u.c) (hb : u.bs.length ≤ 1000000) :
    CallsS Tryz.prog 22 [u.val] (roM M :: L0) (rdR M L0 (rdF [] false u.bs)) := by
  refine CallsS.of_body Tryz.func22 rfl rfl rfl ?_
  refine Q.r ?_; (repeat (intro b1; refine Q.r ?_))
  refine swp_loop (σ := List UInt8 × Bool × YB × (Nat → Option Obj) × Option Addr × Nat) (fun s => [(0, s.2.2.1.val), (4, .slice s.2.2.2.2.1 s.1.length s.2.2.2.2.2), (5, .bool s.2.1)])
    (fun s => slO 5 1 s.2.2.2.2.1 s.1.length s.2.2.2.2.2 (s.1.map B) :: roM s.2.2.2.1 :: L0)
    (fun s => s.1.length + s.2.2.1.bs.length ≤ u.bs.length ∧ rdF s.1 s.2.1 s.2.2.1.bs = rdF [] false u.bs ∧ okYM s.2.2.2.1 s.2.2.1 ∧ s.2.2.1.bs.length ≤ s.2.2.1.c ∧ leM M s.2.2.2.1) (fun s => s.2.2.1.bs.length) ([], false, u, M, none, 0) ⟨rfl, rfl, rfl, trivial⟩ slO_nil ⟨by show 0 + u.bs.length ≤ _; omega, rfl, h, hc, leM.refl _⟩ ?_
  rintro ⟨acc, sh, w, M1, a1, c1⟩ ⟨hat, hall, hwo, hwc, hl⟩
  dsimp only at *
  refine Q.r ?_; (repeat (intro b1; refine Q.r ?_))
  refine S.cq (A := roM M1) rfl (RNext_spec w.a w.c w.bs M1 _ hwo hwc (by omega)) ?_
  rintro _ _ ⟨v, x, M2, rfl, hv, hx, hvo, hxo, hvc, hxc, hl2, rfl⟩
  by_cases he : nxE w.bs = 0
  · rw [if_pos he] at hv hx
    have hn := nxE_ok he
    have hbl := nxB_len he
    have hxl : x.bs.length + (6 + v.bs.length) = w.bs.length := by rw [hx, hv, hbl]; unfold nxR; rw [List.length_drop]; omega
    by_cases h0 : v.bs.length = 0
    · have hnil : nxB w.bs = [] := by rw [← hv]; exact List.length_eq_zero_iff.1 h0
      rw [rdF_end he hnil] at hall
      rw [← hall]
      refine opsS_absc a1 (fun M3 hl3 hs3 hc3 => ?_)
      refine Q.r ?_; (repeat (intro b1; refine Q.r ?_))
      by_cases hr : nxR w.bs = []
      · have hx0 : x.bs.length = 0 := by rw [hx, hr]; rfl
        rw [if_pos hr]
        refine N.r2 (RV.tmp rfl (RV.tmp rfl RV.nil)) (Ent.refl _) ⟨⟨a1, c1, acc⟩, M3, by rw [hx0]; rfl, fun s hs => Option.some.inj hs, hs3, hc3, hl.trans (hl2.trans hl3), rfl⟩
      · have hx0 : ¬ (x.bs.length : Int) = 0 := by
          intro hh
          exact hr (by rw [← hx]; exact List.length_eq_zero_iff.1 (by omega))
        rw [if_neg hr]
        refine N.r2 (RV.tmp rfl (RV.tmp rfl RV.nil)) (Ent.refl _) ⟨⟨a1, c1, acc⟩, M3, by rw [decide_eq_false hx0]; rfl, fun s hs => (by cases hs), hs3, hc3, hl.trans (hl2.trans hl3), rfl⟩
    · have hnil : nxB w.bs ≠ [] := fun hh => h0 (by rw [hv, hh]; rfl)
      rw [rdF_go he hnil] at hall
      cases sh with
      | true =>
        rw [if_pos rfl] at hall
        rw [← hall]
        refine Q.r ?_; (repeat (intro b1; refine Q.r ?_))
        refine N.r2 (RV.tmp rfl (RV.tmp rfl RV.nil)) (L' := roM M2 :: L0) (by repeat (first | exact Ent.refl _ | exact Ent.nil | refine Ent.pick ?_ | refine Ent.nilS ?_ | refine Ent.nilM ?_ | refine Ent.drop ?_)) ⟨⟨none, 0, []⟩, M2, rfl, fun s hs => (by cases hs), SlM.nil, Nat.le_refl _, hl.trans hl2, rfl⟩
      | false =>
        rw [if_neg (by decide)] at hall
        refine Q.r ?_; (repeat (intro b1; refine Q.r ?_))
        refine S.app rfl rfl (SrcS.rd hvo.rd (B_one _)) (by rfl) (by omega) (by omega) (fun a7 c7 => ?_)
        refine Q.r ?_; (repeat (intro b1; refine Q.r ?_))
        have hdd : decide ((nxB w.bs).length < 4096) = decide ((v.bs.length : Int) < 4096) := by rw [hv]; exact decide_eq_decide.2 (by omega)
        rw [hdd, ← hv, ← hx] at hall
        generalize decide ((v.bs.length : Int) < 4096) = sh2 at hall ⊢
        refine ⟨(acc ++ v.bs, sh2, x, M2, a7, c7), ⟨rfl, congrArg some (by rw [List.length_append]), rfl, trivial⟩, ?_, ⟨by rw [List.length_append]; dsimp only; omega, ?_, hxo, hxc, hl.trans hl2⟩, by dsimp only; omega⟩
        · dsimp only
          rw [List.length_append, List.map_append]
          repeat (first | exact Ent.refl _ | exact Ent.nil | refine Ent.pick ?_ | refine Ent.nilS ?_ | refine Ent.nilM ?_ | refine Ent.drop ?_)
        · dsimp only
          exact hall
  · rw [rdF_no he] at hall
    rw [← hall]
    refine Q.r ?_; (repeat (intro b1; refine Q.r ?_))
    refine N.r2 (RV.tmp rfl (RV.tmp rfl RV.nil)) (L' := roM M2 :: L0) (by repeat (first | exact Ent.refl _ | exact Ent.nil | refine Ent.pick ?_ | refine Ent.nilS ?_ | refine Ent.nilM ?_ | refine Ent.drop ?_)) ⟨⟨none, 0, []⟩, M2, rfl, fun s hs => (by cases hs), SlM.nil, Nat.le_refl _, hl.trans hl2, rfl⟩
end Go.Proofs.YtkleenllkjodoaaGreatDoor
namespace Go.Proofs.YtkleenllkjodoaaGreatDoor
open Go Go.SX
def unC (sh : Bool) (l : List (List UInt8)) (m : Nat) : Prop :=
  frsL l = m ∧ l ≠ [] ∧ (l.getD (l.length - 1) []).length = 0 ∧ (∀ i, i < l.length - 1 → okU l.length i (l.getD i []).length = true) ∧ (sh = true → l.length = 1)
theorem unC_cons {sh : Bool} {b : List UInt8} {l : List (List UInt8)} {m : Nat} (hb : b ≠ []) : unC sh (b :: l) (6 + b.length + m) ↔ sh = false ∧ unC (decide (b.length < 4096)) l m := by
  have hb0 : b.length ≠ 0 := fun h => hb (List.length_eq_zero_iff.1 h)
  have hf : frsL (b :: l) = 6 + b.length + frsL l := by simp [frsL]
  cases l with
  | nil =>
    refine ⟨fun h => ?_, fun h => absurd rfl h.2.2.1⟩
    have := h.2.2.1
    simp only [List.length_cons, List.length_nil, Nat.zero_add, Nat.sub_self, List.getD_cons_zero] at this
    exact absurd this hb0
  | cons c l =>
    have hg : (b :: c :: l).getD ((b :: c :: l).length - 1) [] = (c :: l).getD ((c :: l).length - 1) [] := by
      rw [show (b :: c :: l).length - 1 = ((c :: l).length - 1) + 1 by simp, List.getD_cons_succ]
    unfold unC
    rw [hf, hg]
    refine ⟨fun ⟨h1, h2, h3, h4, h5⟩ => ?_, fun ⟨h0, h1, h2, h3, h4, h5⟩ => ?_⟩
    · refine ⟨?_, by omega, by simp, h3, fun i hi => ?_, fun h6 => ?_⟩
      · cases sh with
        | false => rfl
        | true => have := h5 rfl; simp at this
      · have := h4 (i + 1) (by simp at hi ⊢; omega)
        rw [List.getD_cons_succ] at this
        unfold okU at this ⊢
        simp only [List.length_cons] at this ⊢
        rw [show decide (i + 1 + 2 < l.length + 1 + 1) = decide (i + 2 < l.length + 1) from decide_eq_decide.2 (by omega)] at this
        exact this
      · have h7 := h4 0 (by simp)
        unfold okU at h7
        rw [List.getD_cons_zero, h6] at h7
        simp only [List.length_cons] at h7 ⊢
        by_cases hl : l.length = 0
        · omega
        · exfalso
          rw [decide_eq_true (show 0 + 2 < l.length + 1 + 1 by omega)] at h7
          simp at h7
    · refine ⟨by omega, by simp, h3, fun i hi => ?_, fun h6 => by rw [h0] at h6; cases h6⟩
      cases i with
      | zero =>
        unfold okU
        rw [List.getD_cons_zero]
        by_cases hs : b.length < 4096
        · have := h5 (decide_eq_true hs)
          simp at this
          simp [hb0, this, hb]
        · simp [hs, hb]
      | succ i =>
        have := h4 i (by simp at hi ⊢; omega)
        rw [List.getD_cons_succ]
        unfold okU at this ⊢
        simp only [List.length_cons] at this ⊢
        rw [show decide (i + 1 + 2 < l.length + 1 + 1) = decide (i + 2 < l.length + 1) from decide_eq_decide.2 (by omega)]
        exact this
theorem rdF_eq (p : List UInt8) : ∀ (acc : List UInt8) (sh : Bool), (unC sh (allF p) p.length → rdF acc sh p = some (acc ++ ((allF p).take ((allF p).length - 1)).flatten)) ∧ (¬ unC sh (allF p) p.length → rdF acc sh p = none) := by
  induction p using allF.induct with
  | case2 p h =>
    intro acc sh
    rw [allF_no h, rdF_no h]
    exact ⟨fun hc => absurd rfl hc.2.1, fun _ => rfl⟩
  | case1 p h ih =>
    intro acc sh
    have hn := nxE_ok h
    have hbl := nxB_len h
    have hpl : p.length = 6 + (nxB p).length + (nxR p).length := by unfold nxR; rw [List.length_drop]; omega
    rw [allF_ok h]
    by_cases hb : nxB p = []
    · rw [rdF_end h hb, hb]
      by_cases hr : nxR p = []
      · rw [if_pos hr, hr, allF_no nxE_nil]
        refine ⟨fun _ => by simp, fun hc => absurd ?_ hc⟩
        refine ⟨?_, by simp, rfl, fun i hi => by simp at hi, fun _ => rfl⟩
        rw [hpl, hb, hr]; simp [frsL]
      · rw [if_neg hr]
        refine ⟨fun hc => ?_, fun _ => rfl⟩
        obtain ⟨h1, _, h3, h4, _⟩ := hc
        cases hl : allF (nxR p) with
        | nil =>
          rw [hl] at h1
          rw [hpl, hb] at h1
          have : (nxR p).length = 0 := by simp [frsL] at h1; rw [h1]; rfl
          exact absurd (List.length_eq_zero_iff.1 this) hr
        | cons c l =>
          rw [hl] at h4
          have := h4 0 (by simp)
          simp [okU] at this
    · rw [rdF_go h hb]
      have hi := unC_cons (sh := sh) (l := allF (nxR p)) (m := (nxR p).length) hb
      rw [← hpl] at hi
      rw [hi]
      cases sh with
      | true => exact ⟨fun hc => absurd hc.1 (by decide), fun _ => rfl⟩
      | false =>
        rw [if_neg (by decide)]
        obtain ⟨i1, i2⟩ := ih (acc ++ nxB p) (decide ((nxB p).length < 4096))
        refine ⟨fun hc => ?_, fun hc => i2 fun h2 => hc ⟨rfl, h2⟩⟩
        rw [i1 hc.2, List.append_assoc]
        have hne : (allF (nxR p)).length ≠ 0 := fun h0 => hc.2.2.1 (List.length_eq_zero_iff.1 h0)
        rw [List.length_cons, Nat.add_sub_cancel, show (allF (nxR p)).length = ((allF (nxR p)).length - 1) + 1 by omega, List.take_succ_cons]
        simp
theorem rd_un (p : List UInt8) : rdF [] false p = unP p := by
  obtain ⟨h1, h2⟩ := rdF_eq p [] false
  unfold unP unL
  by_cases hc : unC false (allF p) p.length
  · rw [h1 hc, if_pos ⟨hc.1, hc.2.1, hc.2.2.1, hc.2.2.2.1⟩]; rfl
  · rw [h2 hc, if_neg (fun h => hc ⟨h.1, h.2.1, h.2.2.1, h.2.2.2, fun h => by cases h⟩)]
end Go.Proofs.YtkleenllkjodoaaGreatDoor
namespace Go.Proofs.YtkleenllkjodoaaGreatDoor
open Go Go.SX
attribute [local irreducible] swp opsS thenS blockS retS CallsS St Ent YieldS anyS drawS
theorem wr_new {room : Int} {fs : List FE} {n b : List UInt8} (hn : ∀ u ∈ fs, u.1 ≠ n) (hf : ¬ room < (usedD fs : Nat) + (b.length : Int)) : wrE ⟨-1, false, room, fs⟩ b = 0 ∧ wrS ⟨-1, false, room, fs⟩ n b = ⟨-1, false, room, fs ++ [(n, b, 0)]⟩ := by
  refine ⟨by rw [wr1E (by decide), if_neg hf], ?_⟩
  rw [wr1S (by decide) _ hf, lkL_none hn, putL_new hn]; rfl
theorem n993 : nm 99 3 = [99, 51] := by unfold nm; rw [decD_lo (by decide)]; rfl
theorem n1083 : nm 108 3 = [108, 51] := by unfold nm; rw [decD_lo (by decide)]; rfl
theorem n992 : nm 99 2 = [99, 50] := by unfold nm; rw [decD_lo (by decide)]; rfl
theorem n1089 : nm 108 9 = [108, 57] := by unfold nm; rw [decD_lo (by decide)]; rfl
def oldF (l : List UInt8) (old : Bool) : List FE := if old then [([99, 50], [120], 0), ([108, 57], l, 0), ([116], l, 0)] else []
def dF (c l : List UInt8) (old : Bool) : DK := ⟨-1, false, 1048576, ([99, 51], c, 0) :: ([108, 51], l, 0) :: oldF l old⟩
theorem dF_key (c l : List UInt8) (old : Bool) : (dF c l old).fs.map (·.1) = [99, 51] :: [108, 51] :: if old then [[99, 50], [108, 57], [116]] else [] := by cases old <;> rfl
theorem dF_GD (c l : List UInt8) (old : Bool) : GD (dF c l old).fs 3 (c, 0) (some (l, 0)) := by
  refine ⟨?_, ?_, ?_, ?_⟩
  · unfold keysOK
    rw [dF_key]
    cases old <;> decide
  · intro u hu
    have hm : u.1 ∈ (dF c l old).fs.map (·.1) := List.mem_map_of_mem hu
    rw [dF_key] at hm
    rcases List.mem_cons.1 hm with e | hm
    · exact .inr (.inl ⟨3, Nat.le_refl _, by rw [e, n993]⟩)
    rcases List.mem_cons.1 hm with e | hm
    · exact .inr (.inr ⟨3, by decide, by rw [e, n1083]⟩)
    cases old with
    | false => cases hm
    | true =>
      rw [if_pos rfl] at hm
      rcases List.mem_cons.1 hm with e | hm
      · exact .inr (.inl ⟨2, by decide, by rw [e, n992]⟩)
      rcases List.mem_cons.1 hm with e | hm
      · exact .inr (.inr ⟨9, by decide, by rw [e, n1089]⟩)
      exact .inl (List.mem_singleton.1 hm)
  · unfold dF; dsimp only; rw [n993, lkL_cons, if_pos rfl]
  · unfold dF; dsimp only; rw [n1083, lkL_cons, if_neg (by decide), lkL_cons, if_pos rfl]
theorem two_len {fs : List FE} {x y : List UInt8} {a b : List UInt8 × Nat} (hk : keysOK fs) (h : ∀ u ∈ fs, u.1 = x ∨ u.1 = y) (hxy : x ≠ y) (h1 : (x, a) ∈ fs) (h2 : (y, b) ∈ fs) : fs.length = 2 := by
  have hp : (fs.map (·.1)).Perm [x, y] := by
    refine (List.perm_ext_iff_of_nodup hk (by simp [hxy])).2 fun z => ?_
    refine ⟨fun hz => ?_, fun hz => ?_⟩
    · obtain ⟨u, hu, rfl⟩ := List.mem_map.1 hz
      rcases h u hu with e | e <;> simp [e]
    · rcases List.mem_cons.1 hz with rfl | hz
      · exact List.mem_map_of_mem (f := (·.1)) h1
      · rw [List.mem_singleton.1 hz]; exact List.mem_map_of_mem (f := (·.1)) h2
  have := hp.length_eq
  simpa using this
theorem wr_one {p b : Nat} {room : Int} {fs : List FE} {n : List UInt8} {u : YB} {M : Nat → Option Obj} {L : List HP} (hn : rightS n) (hnew : ∀ u ∈ fs, u.1 ≠ n) (hfew : fs.length ≤ 15) (hf : ¬ room < (usedD fs : Nat) + (u.bs.length : Int)) (hs : SlM M (some ⟨b, 0, none⟩) 1 1 [u.val]) (hu : okYM M u) (hl : u.bs.length ≤ 100000) :
    CallsS Tryz.prog 21 [ptrD p, str n, .slice (some ⟨b, 0, none⟩) 1 1] (diskH p ⟨-1, false, room, fs⟩ :: roM M :: L) (fun r L' => r = .int .i64 0 ∧ ∃ M', leM M M' ∧ L' = diskH p ⟨-1, false, room, fs ++ [(n, u.bs, 0)]⟩ :: roM M' :: L) := by
  have hcv : catY [u] = u.bs := by simp [catY]
  have h := Write_spec p ⟨-1, false, room, fs⟩ n (some ⟨b, 0, none⟩) 1 [u] M L hn hfew hs (fun v hv => by rw [List.mem_singleton.1 hv]; exact hu) (Nat.le_refl _) (by simp) (by rw [hcv]; omega)
  obtain ⟨w1, w2⟩ := wr_new (n := n) hnew hf
  rw [hcv, w1, w2] at h
  exact h
set_option maxHeartbeats 8000000 in
theorem JournalForms_spec (ac : Option Addr) (cc : Nat) (c0 : List UInt8) (al : Option Addr) (cl0 : Nat) (l0 : List UInt8) (old : Bool) (M : Nat → Option Obj) (L : List HP) (h1 : SlM M ac c0.length 1 (c0.map B)) (hc1 : c0.length ≤ cc) (h2 : SlM M al l0.length 1 (l0.map B)) (hc2 : l0.length ≤ cl0) (hE : ErrM M) (hT : NibM M) :
    CallsS Tryz.prog 5 [.slice ac c0.length cc, .slice al l0.length cl0, .bool old] (roM M :: L) (fun v _ => v = .bool true) := by
  refine CallsS.of_body Tryz.func5 rfl rfl rfl ?_
  refine Q.r ?_; (repeat (intro b1; refine Q.r ?_))
  refine S.cr rfl (awakeJ_spec M _ hE hT) ?_
  rintro _ _ ⟨rfl, M1, hl1, rfl⟩
  have hE1 := hE.mono hl1
  have hT1 := hT.mono hl1
  refine Q.r ?_; (repeat (intro b1; refine Q.r ?_))
  refine S.cr rfl (RCut_spec ac cc c0 9000 _ (h1.mono hl1).rd hc1 (by decide)) ?_
  rintro _ _ ⟨a2, c2, rfl, rfl⟩
  obtain ⟨c, hc⟩ : ∃ c, c = c0.take 9000 := ⟨_, rfl⟩
  have hcl : c.length ≤ 9000 := by rw [hc, List.length_take]; omega
  rw [← hc]
  refine opsS_absc a2 (fun M2 hl2 hs2 hc2' => ?_)
  refine Q.r ?_; (repeat (intro b1; refine Q.r ?_))
  refine S.cr rfl (RCut_spec al cl0 l0 3000 _ ((h2.mono hl1).mono hl2).rd hc2 (by decide)) ?_
  rintro _ _ ⟨a3, c3, rfl, rfl⟩
  obtain ⟨l, hl⟩ : ∃ l, l = l0.take 3000 := ⟨_, rfl⟩
  have hll : l.length ≤ 3000 := by rw [hl, List.length_take]; omega
  rw [← hl]
  refine opsS_absc a3 (fun M3 hl3 hs3 hc3 => ?_)
  have hs2 := hs2.mono hl3
  have hT3 := (hT1.mono hl2).mono hl3
  have hE3 := (hE1.mono hl2).mono hl3
  clear h1 h2
  refine Q.r ?_; (repeat (intro b1; refine Q.r ?_))
  refine S.cr rfl (DNew_spec 1048576 _ (by decide)) ?_
  rintro _ _ ⟨p, rfl, rfl⟩
  refine Q.r ?_; (repeat (intro b1; refine Q.r ?_))
  have hroom : D0 1048576 = ⟨-1, false, 1048576, []⟩ := rfl
  rw [hroom]
  refine opsS_absR b1 (t := 31) (l := [.slice a2 c.length c2]) (m := 1) (cs := [.slice a2 c.length c2]) (Nat.le_refl _) rfl (fun M4 hl4 hs4 => ?_)
  refine S.ckm p rfl (wr_one (u := ⟨a2, c2, c⟩) (n := [99, 51]) ⟨by decide, by decide, by decide⟩ (fun u hu => by cases hu) (by decide) (by rw [show usedD [] = 0 from rfl]; dsimp only; omega) hs4 (SlM.mono hs2 hl4) (by dsimp only; omega)) ?_
  rintro _ _ ⟨rfl, M5, hl5, rfl⟩
  refine Q.r ?_; (repeat (intro b1; refine Q.r ?_))
  refine opsS_absR b1 (t := 31) (l := [.slice a3 l.length c3]) (m := 1) (cs := [.slice a3 l.length c3]) (Nat.le_refl _) rfl (fun M6 hl6 hs6 => ?_)
  have hl36 := hl4.trans (hl5.trans hl6)
  refine S.ckm p rfl (wr_one (u := ⟨a3, c3, l⟩) (n := [108, 51]) ⟨by decide, by decide, by decide⟩ (fun u hu => by rw [List.mem_singleton.1 hu]; show ([99, 51] : List UInt8) ≠ [108, 51]; decide) (Nat.le_of_ble_eq_true rfl) (by dsimp only; rw [List.nil_append, usedD_cons]; dsimp only; rw [usedD_nil]; omega) hs6 (SlM.mono hs3 hl36) (by dsimp only; omega)) ?_
  rintro _ _ ⟨rfl, M7, hl7, rfl⟩
  have hl37 := hl36.trans hl7
  repeat (first | (refine GQ.y ?_; refine Q.y ?_) | (refine GQ.a ?_; refine Q.al (fun b1 => ?_)) | (refine GQ.s ?_; refine Q.st ?_) | (refine GQ.g ?_; refine Q.gq ?_))
  refine opsS_nil ?_
  refine N.tn ?_
  refine swp_seq ?_
  refine swp_region ?_; (repeat (first | (refine GQ.y ?_; refine Q.y ?_) | (refine GQ.a ?_; refine Q.al (fun b1 => ?_)) | (refine GQ.s ?_; refine Q.st ?_) | (refine GQ.g ?_; refine Q.gq ?_))); refine opsS_nil ?_; first | refine N.tn ?_ | skip
  refine swp_seq ?_
  refine swp_cutT (σ := (Nat → Option Obj)) (fun _ => [(0, .slice a2 c.length c2), (1, .slice a3 l.length c3), (7, ptrD p), (9, .int .i64 2)])
    (fun M => diskH p (dF c l old) :: roM M :: L) (fun M => leM M3 M) ?_ ?_
  · cases old with
    | false =>
      refine Q.r ?_; (repeat (intro b1; refine Q.r ?_))
      exact ⟨M7, ⟨rfl, rfl, rfl, rfl, trivial⟩, Ent.refl _, hl37⟩
    | true =>
      refine Q.r ?_; (repeat (intro b1; refine Q.r ?_))
      refine S.cvj (t0 := 5) rfl rfl (fun M8 hl8 hs8 => ?_)
      generalize b1 = ba at *
      refine Q.r ?_; (repeat (intro b1; refine Q.r ?_))
      refine opsS_absR b1 (t := 31) (l := [.slice (some ⟨ba, 0, none⟩) 1 1]) (m := 1) (cs := [.slice (some ⟨ba, 0, none⟩) 1 1]) (Nat.le_refl _) rfl (fun M9 hl9 hs9 => ?_)
      refine S.ckm p rfl (wr_one (u := ⟨some ⟨ba, 0, none⟩, 1, [120]⟩) (n := [99, 50]) ⟨by decide, by decide, by decide⟩ (fun u hu => ?_) (Nat.le_of_ble_eq_true rfl) (by simp only [List.nil_append, List.cons_append, usedD_cons, usedD_nil, List.length_cons, List.length_nil]; omega) hs9 (SlM.mono hs8 hl9) (by simp)) ?_
      · rcases List.mem_cons.1 hu with rfl | hu
        · show ([99, 51] : List UInt8) ≠ [99, 50]; decide
        · rw [List.mem_singleton.1 hu]; show ([108, 51] : List UInt8) ≠ [99, 50]; decide
      rintro _ _ ⟨rfl, M10, hl10, rfl⟩
      refine Q.r ?_; (repeat (intro b1; refine Q.r ?_))
      refine opsS_absR b1 (t := 31) (l := [.slice a3 l.length c3]) (m := 1) (cs := [.slice a3 l.length c3]) (Nat.le_refl _) rfl (fun M11 hl11 hs11 => ?_)
      have hl3b := hl37.trans (hl8.trans (hl9.trans (hl10.trans hl11)))
      refine S.ckm p rfl (wr_one (u := ⟨a3, c3, l⟩) (n := [108, 57]) ⟨by decide, by decide, by decide⟩ (fun u hu => ?_) (Nat.le_of_ble_eq_true rfl) (by simp only [List.nil_append, List.cons_append, usedD_cons, usedD_nil, List.length_cons, List.length_nil]; omega) hs11 (SlM.mono hs3 hl3b) (by dsimp only; omega)) ?_
      · rcases List.mem_cons.1 hu with rfl | hu
        · show ([99, 51] : List UInt8) ≠ [108, 57]; decide
        rcases List.mem_cons.1 hu with rfl | hu
        · show ([108, 51] : List UInt8) ≠ [108, 57]; decide
        · rw [List.mem_singleton.1 hu]; show ([99, 50] : List UInt8) ≠ [108, 57]; decide
      rintro _ _ ⟨rfl, M12, hl12, rfl⟩
      refine Q.r ?_; (repeat (intro b1; refine Q.r ?_))
      refine opsS_absR b1 (t := 31) (l := [.slice a3 l.length c3]) (m := 1) (cs := [.slice a3 l.length c3]) (Nat.le_refl _) rfl (fun M13 hl13 hs13 => ?_)
      have hl3d := hl3b.trans (hl12.trans hl13)
      refine S.ckm p rfl (wr_one (u := ⟨a3, c3, l⟩) (n := [116]) ⟨by decide, by decide, by decide⟩ (fun u hu => ?_) (Nat.le_of_ble_eq_true rfl) (by simp only [List.nil_append, List.cons_append, usedD_cons, usedD_nil, List.length_cons, List.length_nil]; omega) hs13 (SlM.mono hs3 hl3d) (by dsimp only; omega)) ?_
      · rcases List.mem_cons.1 hu with rfl | hu
        · show ([99, 51] : List UInt8) ≠ [116]; decide
        rcases List.mem_cons.1 hu with rfl | hu
        · show ([108, 51] : List UInt8) ≠ [116]; decide
        rcases List.mem_cons.1 hu with rfl | hu
        · show ([99, 50] : List UInt8) ≠ [116]; decide
        · rw [List.mem_singleton.1 hu]; show ([108, 57] : List UInt8) ≠ [116]; decide
      rintro _ _ ⟨rfl, M14, hl14, rfl⟩
      refine Q.r ?_; (repeat (intro b1; refine Q.r ?_))
      exact ⟨M14, ⟨rfl, rfl, rfl, rfl, trivial⟩, Ent.refl _, hl3d.trans hl14⟩
  · intro M8 hl8
    have hT8 := hT3.mono hl8
    have hE8 := hE3.mono hl8
    have hsc := SlM.mono hs2 hl8
    have hsl := SlM.mono hs3 hl8
    clear hl4 hl5 hl6 hl7 hl36 hl37 hs4 hs6 hs2 hs3
    refine Q.r ?_; (repeat (intro b1; refine Q.r ?_))
    have hG := dF_GD c l old
    refine S.ckm p rfl (Open_spec p (dF c l old) M8 _ hE8 hT8 (hG.good (by decide))) ?_
    have hB : opB (dF c l old) = unP c := hG.sta (by decide) rfl
    cases hu : unP c with
    | none =>
      have hE4 : opnE (dF c l old) = 4 := by unfold opnE; rw [if_neg (by show ¬ (false = true); decide), if_pos (by rw [hB, hu])]
      rintro _ _ ⟨M9, hl9, ⟨_, rfl, rfl⟩ | ⟨h, _⟩⟩
      case inr => rw [hE4] at h; cases h
      rw [hE4]
      refine Q.r ?_; (repeat (intro b1; refine Q.r ?_))
      refine opsS_ent (L' := roM M9 :: pt b1 (cl [.slice none 0 0, .slice none 0 0] 37) :: L) (by repeat (first | exact Ent.refl _ | exact Ent.nil | refine Ent.pick ?_ | refine Ent.nilS ?_ | refine Ent.nilM ?_ | refine Ent.drop ?_)) ?_
      refine S.cr rfl (RRead_spec ⟨a2, c2, c⟩ M9 _ (SlM.mono hsc hl9) hc2' (by dsimp only; omega)) ?_
      rintro _ _ ⟨v, M10, rfl, _, _, _, hl10, rfl⟩
      dsimp only
      rw [rd_un, hu]
      refine Q.r ?_; (repeat (intro b1; refine Q.r ?_))
      exact N.r1 (RV.tmp rfl RV.nil) (Ent.refl _) rfl
    | some st =>
      have hlv : live (dF c l old) := ⟨rfl, rfl⟩
      obtain ⟨o1, o2, o3, o4, o5, o6⟩ := open_live hlv (by decide) hG (fun v hv => by rw [← Option.some.inj hv]; exact Nat.zero_le _) (by rw [hu]; simp)
      have hN := hG.gen (by decide)
      dsimp only at o3 o4
      rintro _ _ ⟨M9, hl9, ⟨h, _⟩ | ⟨_, q, sv, ao, co, vs2, rfl, hsv, hsv2, _, hvs, hvo, hvS, _, rfl⟩⟩
      · exact absurd o1 h
      rw [hB, hu] at hsv
      rw [o3] at hvs
      rw [hN]
      obtain ⟨d2, hd2⟩ : ∃ d2, d2 = opnS (dF c l old) := ⟨_, rfl⟩
      rw [← hd2] at o2 o4 o5 o6 ⊢
      refine Q.r ?_; (repeat (intro b1; refine Q.r ?_))
      refine opsS_ent (L' := roM M9 :: pt b1 (cl [sv.val, .slice ao vs2.length co] 37) :: jnP q p 3 vs2.length false :: diskH p d2 :: L) (by repeat (first | exact Ent.refl _ | exact Ent.nil | refine Ent.pick ?_ | refine Ent.nilS ?_ | refine Ent.nilM ?_ | refine Ent.drop ?_)) ?_
      refine S.cr rfl (RRead_spec ⟨a2, c2, c⟩ M9 _ (SlM.mono hsc hl9) hc2' (by dsimp only; omega)) ?_
      rintro _ _ ⟨v, M10, rfl, hv, hvo2, _, hl10, rfl⟩
      dsimp only at hv ⊢
      rw [rd_un, hu] at hv ⊢
      have hvb := hv _ rfl
      refine Q.r ?_; (repeat (intro b1; refine Q.r ?_))
      refine S.cr rfl (RRecords_spec ⟨a3, c3, l⟩ M10 _ (SlM.mono hsl (hl9.trans hl10)) hc3 (by dsimp only; omega)) ?_
      rintro _ _ ⟨a5, c5, rfl, vs5, M11, hv5, hvo5, hl11, rfl⟩
      dsimp only at hv5 ⊢
      have hl5 : (logF l).length = vs5.length := by rw [← hv5, List.length_map]
      rw [hl5]
      refine opsS_absc a5 (fun M12 hl12 hs12 hc12 => ?_)
      refine Q.r ?_; (repeat (intro b1; refine Q.r ?_))
      refine S.ckm p rfl (Read_spec p d2 [108, 51] M12 _) ?_
      rintro _ _ ⟨x, M13, rfl, hx, hxo, hxc, hl13, rfl⟩
      have hl3x : lkL d2.fs [108, 51] = some (l.take (frsL (logF l)), frsL (logF l)) := by rw [← n1083]; exact o4.l
      obtain ⟨r1, r2⟩ := rd_of o2.d hl3x
      rw [r1]
      rw [r2] at hx
      have hat : frsL (logF l) ≤ l.length := logF_le l
      refine Q.r ?_; (repeat (intro b1; refine Q.r ?_))
      have hl913 := hl10.trans (hl11.trans (hl12.trans hl13))
      have hsv3 : sv.bs = v.bs := by rw [hvb]; exact Option.some.inj hsv
      refine S.cr rfl (YSame_spec sv v _ (hsv2.mono hl913).rd ((hvo2.mono (hl11.trans (hl12.trans hl13))).rd)) ?_
      rintro _ _ ⟨rfl, rfl⟩
      rw [decide_eq_true hsv3]
      refine Q.r ?_; (repeat (intro b1; refine Q.r ?_))
      refine opsS_ent (L' := roM M13 :: pt b1 (cl [sv.val, .slice ao vs2.length co] 37) :: jnP q p 3 vs2.length false :: diskH p d2 :: L) (by repeat (first | exact Ent.refl _ | exact Ent.nil | refine Ent.pick ?_ | refine Ent.nilS ?_ | refine Ent.nilM ?_ | refine Ent.drop ?_)) ?_
      have hvl : vs2.length = vs5.length := by rw [← List.length_map (f := YB.bs), hvs, ← hl5]
      have h5l : vs5.length ≤ 3000 := by rw [← hl5]; have := frsL_ge (logF l); omega
      refine S.cr rfl (Same6_spec ao a5 co c5 vs2 vs5 M13 _ (hvS.mono hl913) (hvo.mono hl913) (hs12.mono hl13) (hvo5.mono (hl12.trans hl13)) (by omega)) ?_
      rintro _ _ ⟨rfl, rfl⟩
      rw [decide_eq_true (show vs2.map YB.bs = vs5.map YB.bs by rw [hvs, hv5])]
      refine Q.r ?_; (repeat (intro b1; refine Q.r ?_))
      have hlt : frsL (logF l) = (l.take (frsL (logF l))).length := by rw [List.length_take]; omega
      refine S.y (Y.slT (h := (l.take (frsL (logF l))).length) rfl rfl (by rw [← hlt]) (by omega)) ?_
      have hso : okYM M13 ⟨a3, c3, l.take (frsL (logF l))⟩ := by
        have := SlM.take (SlM.mono hsl (hl9.trans hl913)) hat
        unfold okYM
        dsimp only
        rw [← hlt, List.map_take, ← Nat.mul_one (frsL (logF l))]
        simpa using this
      obtain ⟨lt, hlt0⟩ : ∃ lt, lt = l.take (frsL (logF l)) := ⟨_, rfl⟩
      rw [← hlt0] at hx hso ⊢
      (refine GQ.g ?_; refine Q.gq ?_)
      refine S.cr rfl (YSame_spec x ⟨a3, c3, lt⟩ _ hxo.rd hso.rd) ?_
      rintro _ _ ⟨rfl, rfl⟩
      dsimp only
      rw [decide_eq_true hx]
      refine Q.r ?_; (repeat (intro b1; refine Q.r ?_))
      refine S.ckm p rfl (Names_spec p d2 M13 _) ?_
      rintro _ _ ⟨a9, c9, M14, rfl, _, _, hl14, rfl⟩
      have hd2l : d2.fs.length = 2 := by
        have hk := o4.key
        have m1 := lk_memL o4.c
        have m2 := lk_memL o4.l
        exact two_len hk o6 (nm_ne 3 3) m1 m2
      rw [hd2l]
      refine Q.r ?_; (repeat (intro b1; refine Q.r ?_))
      refine S.ck p rfl (Loose_spec p d2 [108, 51] _) ?_
      rintro _ _ ⟨rfl, rfl⟩
      have hlo : looseD d2 [108, 51] = 0 := by
        unfold looseD
        rw [fileD_of hl3x, ← hlt]
        exact Nat.sub_self _
      rw [hlo]
      refine Q.r ?_; (repeat (intro b1; refine Q.r ?_))
      refine opsS_ent (L' := jnP q p 3 vs2.length false :: pt b1 (cl [sv.val, .slice ao vs2.length co] 37) :: diskH p d2 :: roM M14 :: L) (by repeat (first | exact Ent.refl _ | exact Ent.nil | refine Ent.pick ?_ | refine Ent.nilS ?_ | refine Ent.nilM ?_ | refine Ent.drop ?_)) ?_
      refine S.cr rfl (Gen_spec q p 3 vs2.length false _) ?_
      rintro _ _ ⟨rfl, rfl⟩
      refine Q.r ?_; (repeat (intro b1; refine Q.r ?_))
      refine S.cr rfl (Count_spec q p 3 vs2.length false _) ?_
      rintro _ _ ⟨rfl, rfl⟩
      have hvl' : (vs2.length : Int) = vs5.length := by omega
      refine Q.r ?_; (repeat (intro b1; refine Q.r ?_))
      exact N.r1 (RV.tmp rfl RV.nil) (Ent.refl _) (by rw [decide_eq_true hvl'])
end Go.Proofs.YtkleenllkjodoaaGreatDoor
