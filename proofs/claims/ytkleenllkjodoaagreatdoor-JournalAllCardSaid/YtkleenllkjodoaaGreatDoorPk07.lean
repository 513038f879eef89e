/- The law's example. Readings opened: from what the arguments read as to cells that stay; rows. The journal's rows: what the listed variables hold. The law's begin. JournalMany. What follows behind a call, by what lies there. JournalAll. No condition. -/
import Derived.ReadAgain
import Derived.ChangeArms
import Derived.WideShapes
import Derived.KernelRfl
import Derived.Test.YtkleenllkjodoaaGreatDoorCards
import Derived.Test.YtkleenllkjodoaaGreatDoorTie
import Derived.Deep.DeepHandedRow
import Derived.Lib.LaidTab
import Derived.Stop.LaidErr
import Derived.Lay
import Derived.Test.YtkleenllkjodoaaGreatDoorPk06
set_option linter.unusedVariables false
set_option linter.unusedSimpArgs false
set_option linter.unusedSectionVars false
namespace Go.SX
open Go
theorem S.cvj {P : Program} {n : Nat} {ops rest : List Oper} {Q : Post} {f : Env} {L L0 L1 : List HP} {d : Tmp} {ty : TypeId} {pos : String} {af : Array Edge} {M : Nat → Option Obj} {x : Operand} {t e t0 : TypeId} {b m c : Nat} {l : List Value} [h : SlTy P t e] [h2 : IntTy P e .u8] (hx : ev f x = some (.slice (some ⟨b, 0, none⟩) m c)) [hf : FindB b L (cl l t0)] [hp : Pick (pt b (cl l t0)) L L0] [hm : PickM L0 M L1] (hl : l.length = m)
    (hk : ∀ M', leM M M' → SlM M' (some ⟨b, 0, none⟩) m 1 l → opsS P n ops rest Q (upd f d (.slice (some ⟨b, 0, none⟩) m c)) (roM M' :: L1)) :
    opsS P n ops (⟨some d, .convert t t x, ty, pos, af, none⟩ :: rest) Q f L :=
  S.cvm hx hl fun M1 h1 => opsS_join fun M' hl1 hl2 => hk M' hl1 (h1.mono hl2)
end Go.SX
namespace Go.Proofs.YtkleenllkjodoaaGreatDoor
open Go Go.SX
attribute [local irreducible] swp opsS thenS blockS retS CallsS St Ent YieldS anyS drawS
set_option maxHeartbeats 4000000 in
theorem awakeJ_spec (M : Nat → Option Obj) (L : List HP) (hE : ErrM M) (hT : NibM M) : CallsS Tryz.prog 9 [] (roM M :: L) (fun r L' => r = .bool true ∧ ∃ M', leM M M' ∧ L' = roM M' :: L) := by
  refine CallsS.of_body Tryz.func9 rfl rfl rfl ?_
  refine Q.r ?_; (repeat (intro b1; refine Q.r ?_))
  refine S.cr rfl (DNew_spec 1000 _ (by decide)) ?_
  rintro _ _ ⟨p, rfl, rfl⟩
  refine Q.r ?_; (repeat (intro b1; refine Q.r ?_))
  refine S.cvj (t0 := 5) rfl rfl (fun M1 hl1 hs1 => ?_)
  refine Q.r ?_; (repeat (intro b1; refine Q.r ?_))
  have hT1 := hT.mono hl1
  have hst := stP_len [115]
  have hl0 := fo_0 1000 [115]
  have hfits : ¬ (1000 : Int) < ((stP [115]).length : Nat) := by simp at hst; omega
  have hfo : foE (D0 1000) [115] = 0 := by rw [hl0.1, if_neg hfits]
  have hfs : foS (D0 1000) [115] = dJ 1000 0 [115] none := hl0.2 hfits
  refine S.ckm p rfl (Format_spec p (D0 1000) (some ⟨b1, 0, none⟩) 1 [115] M1 _ hs1 hT1 (Nat.le_refl _) (by decide)) ?_
  rintro _ _ ⟨rfl, M2, hl2, rfl⟩
  rw [hfo, hfs]
  refine Q.r ?_; (repeat (intro b1; refine Q.r ?_))
  have hT2 := hT1.mono hl2
  have hE2 := (hE.mono hl1).mono hl2
  refine S.ckm p rfl (Open_spec p _ M2 _ hE2 hT2 (goodJ (by decide))) ?_
  obtain ⟨o1, o2, o3, o4, o5⟩ := open_J (room := 1000) (n := 0) (s := [115]) (R := []) (lg := none) (by decide) (fun x hx => by cases hx) (.inl ⟨rfl, rfl⟩)
  rintro _ _ ⟨M3, hl3, ⟨h, _⟩ | ⟨_, q, sv, a, c, vs, rfl, _, _, _, hvs, _, _, _, rfl⟩⟩
  · exact absurd o1 h
  rw [o5] at hvs
  have hvl : vs.length = 0 := by rw [← List.length_map (f := YB.bs), hvs]; rfl
  rw [o2, o3, hvl]
  refine Q.r ?_; (repeat (intro b1; refine Q.r ?_))
  refine S.cvj (t0 := 5) rfl rfl (fun M4 hl4 hs4 => ?_)
  generalize b1 = ba at *
  refine Q.r ?_; (repeat (intro b1; refine Q.r ?_))
  refine S.cvj (t0 := 5) rfl rfl (fun M5 hl5 hs5 => ?_)
  generalize b1 = bb at *
  refine Q.r ?_; (repeat (intro b1; refine Q.r ?_))
  refine opsS_ent (L' := pt b1 (cl [.slice (some ⟨ba, 0, none⟩) 1 1, .slice (some ⟨bb, 0, none⟩) 1 1] 31) :: roM M5 :: jnP q p 0 0 false :: diskH p (dJ 1000 0 [115] none) :: L) (by repeat (first | exact Ent.refl _ | exact Ent.nil | refine Ent.pick ?_ | refine Ent.nilS ?_ | refine Ent.nilM ?_ | refine Ent.drop ?_)) ?_
  refine opsS_absR b1 (t := 31) (l := [.slice (some ⟨ba, 0, none⟩) 1 1, .slice (some ⟨bb, 0, none⟩) 1 1]) (m := 2) (cs := [.slice (some ⟨ba, 0, none⟩) 1 1, .slice (some ⟨bb, 0, none⟩) 1 1]) (Nat.le_refl _) rfl (fun M6 hl6 hs6 => ?_)
  refine opsS_ent (L' := jnP q p 0 0 false :: diskH p (dJ 1000 0 [115] none) :: roM M6 :: L) (by repeat (first | exact Ent.refl _ | exact Ent.nil | refine Ent.pick ?_ | refine Ent.nilS ?_ | refine Ent.nilM ?_ | refine Ent.drop ?_)) ?_
  have hT6 := (((hT2.mono hl3).mono hl4).mono hl5).mono hl6
  have hR2 : ([⟨some ⟨ba, 0, none⟩, 1, [97]⟩, ⟨some ⟨bb, 0, none⟩, 1, [98]⟩] : List YB).map YB.bs = [[97], [98]] := rfl
  have hok2 : okYs M6 [⟨some ⟨ba, 0, none⟩, 1, [97]⟩, ⟨some ⟨bb, 0, none⟩, 1, [98]⟩] := fun v hv => by
    rcases List.mem_cons.1 hv with rfl | hv
    · exact ⟨((hs4.mono hl5).mono hl6 : SlM M6 (some ⟨ba, 0, none⟩) 1 1 [B 97]), Nat.le_refl _⟩
    · rw [List.mem_singleton.1 hv]
      exact ⟨(hs5.mono hl6 : SlM M6 (some ⟨bb, 0, none⟩) 1 1 [B 98]), Nat.le_refl _⟩
  refine S.cr rfl (JPut_spec p q ⟨dJ 1000 0 [115] none, 0, 0, false⟩ (some ⟨b1, 0, none⟩) 2 [⟨some ⟨ba, 0, none⟩, 1, [97]⟩, ⟨some ⟨bb, 0, none⟩, 1, [98]⟩] M6 L (by decide) (by decide) (by show 1 ≤ 15; decide) hs6 hok2 hT6 (by simp) (fun v hv => by rcases List.mem_cons.1 hv with rfl | hv; exact Nat.le_of_ble_eq_true rfl; rw [List.mem_singleton.1 hv]; exact Nat.le_of_ble_eq_true rfl)) ?_
  rw [hR2]
  have hfl : (frs [[97], [98]]).length = 14 := by rw [frs_len]; rfl
  have hlg0 : (lgB none).length = 0 := rfl
  obtain ⟨hp1, hp2⟩ := (put_J (room := 1000) (n := 0) (k := 0) (s := [115]) (lg := none) (rs := [[97], [98]]) (by decide) (by simp)).2 (by rw [hfl, hlg0]; simp at hst; omega)
  rintro _ _ ⟨rfl, M7, hl7, rfl⟩
  rw [hp1, hp2]
  refine opsS_ent (L' := jnP q p 0 2 false :: diskH p (dJ 1000 0 [115] (some (frs [[97], [98]], 0))) :: roM M7 :: L) (Ent.refl _) ?_
  have hT7 := hT6.mono hl7
  refine Q.r ?_; (repeat (intro b1; refine Q.r ?_))
  refine S.cr rfl (Force_spec p q ⟨dJ 1000 0 [115] (some (frs [[97], [98]], 0)), 0, 2, false⟩ M7 L (by decide)) ?_
  obtain ⟨hf1, hf2⟩ := foce_J (room := 1000) (n := 0) (k := 2) (s := [115]) (b := frs [[97], [98]]) (f := 0) (by decide)
  rintro _ _ ⟨rfl, M8, hl8, rfl⟩
  rw [hf1, hf2]
  refine opsS_ent (L' := jnP q p 0 2 false :: diskH p (dJ 1000 0 [115] (some (frs [[97], [98]], (frs [[97], [98]]).length))) :: roM M8 :: L) (Ent.refl _) ?_
  refine Q.r ?_; (repeat (intro b1; refine Q.r ?_))
  refine S.cvj (t0 := 5) rfl rfl (fun M9 hl9 hs9 => ?_)
  generalize b1 = bc at *
  refine Q.r ?_; (repeat (intro b1; refine Q.r ?_))
  refine opsS_ent (L' := pt b1 (cl [.slice (some ⟨bc, 0, none⟩) 1 1] 31) :: roM M9 :: jnP q p 0 2 false :: diskH p (dJ 1000 0 [115] (some (frs [[97], [98]], (frs [[97], [98]]).length))) :: L) (by repeat (first | exact Ent.refl _ | exact Ent.nil | refine Ent.pick ?_ | refine Ent.nilS ?_ | refine Ent.nilM ?_ | refine Ent.drop ?_)) ?_
  refine opsS_absR b1 (t := 31) (l := [.slice (some ⟨bc, 0, none⟩) 1 1]) (m := 1) (cs := [.slice (some ⟨bc, 0, none⟩) 1 1]) (Nat.le_refl _) rfl (fun M10 hl10 hs10 => ?_)
  refine opsS_ent (L' := jnP q p 0 2 false :: diskH p (dJ 1000 0 [115] (some (frs [[97], [98]], (frs [[97], [98]]).length))) :: roM M10 :: L) (by repeat (first | exact Ent.refl _ | exact Ent.nil | refine Ent.pick ?_ | refine Ent.nilS ?_ | refine Ent.nilM ?_ | refine Ent.drop ?_)) ?_
  have hT10 := ((hT7.mono hl8).mono hl9).mono hl10
  have hR3 : ([⟨some ⟨bc, 0, none⟩, 1, [99]⟩] : List YB).map YB.bs = [[99]] := rfl
  have hok3 : okYs M10 [⟨some ⟨bc, 0, none⟩, 1, [99]⟩] := fun v hv => by
    rw [List.mem_singleton.1 hv]
    exact ⟨(hs9.mono hl10 : SlM M10 (some ⟨bc, 0, none⟩) 1 1 [B 99]), Nat.le_refl _⟩
  refine S.cr rfl (JPut_spec p q ⟨dJ 1000 0 [115] (some (frs [[97], [98]], (frs [[97], [98]]).length)), 0, 2, false⟩ (some ⟨b1, 0, none⟩) 1 [⟨some ⟨bc, 0, none⟩, 1, [99]⟩] M10 L (by decide) (by decide) (by show 2 ≤ 15; decide) hs10 hok3 hT10 (by simp) (fun v hv => by rw [List.mem_singleton.1 hv]; exact Nat.le_of_ble_eq_true rfl)) ?_
  rw [hR3]
  have hfl3 : (frs [[99]]).length = 7 := by rw [frs_len]; rfl
  have hlg3 : (lgB (some (frs [[97], [98]], (frs [[97], [98]]).length))).length = 14 := hfl
  obtain ⟨hq1, hq2⟩ := (put_J (room := 1000) (n := 0) (k := 2) (s := [115]) (lg := some (frs [[97], [98]], (frs [[97], [98]]).length)) (rs := [[99]]) (by decide) (by simp)).2 (by rw [hfl3, hlg3]; simp at hst; omega)
  rintro _ _ ⟨rfl, M11, hl11, rfl⟩
  rw [hq1, hq2]
  refine opsS_ent (L' := jnP q p 0 3 false :: diskH p (dJ 1000 0 [115] (some (frs [[97], [98]] ++ frs [[99]], (frs [[97], [98]]).length))) :: roM M11 :: L) (Ent.refl _) ?_
  refine Q.r ?_; (repeat (intro b1; refine Q.r ?_))
  refine S.ckm p rfl (Names_spec p _ M11 _) ?_
  rintro _ _ ⟨a4, c4, M12, rfl, hs12, hc12, hl12, rfl⟩
  rw [namesJ] at hs12
  rw [show (dJ 1000 0 [115] (some (frs [[97], [98]] ++ frs [[99]], (frs [[97], [98]]).length))).fs.length = 2 from rfl] at hs12 hc12 ⊢
  refine Q.r ?_; (repeat (intro b1; refine Q.r ?_))
  refine S.ckm p rfl (Crash_spec p _ none 0 [] M12 _ SlM.nil (by decide)) ?_
  rintro _ _ ⟨kf, M13, rfl, hl13, hkf1, hkf2, rfl⟩
  have hkf := hkf2 rfl
  have hcr : crD (dJ 1000 0 [115] (some (frs [[97], [98]] ++ frs [[99]], (frs [[97], [98]]).length))) kf = dJ 1000 0 [115] (some (frs [[97], [98]], (frs [[97], [98]]).length)) := by
    unfold crD dJ
    simp [hkf]
  rw [hcr]
  refine Q.r ?_; (repeat (intro b1; refine Q.r ?_))
  have hT13 := ((hT10.mono hl11).mono hl12).mono hl13
  have hE13 := ((((((((((hE2.mono hl3).mono hl4).mono hl5).mono hl6).mono hl7).mono hl8).mono hl9).mono hl10).mono hl11).mono hl12).mono hl13
  refine S.ckm p rfl (Open_spec p _ M13 _ hE13 hT13 (goodJ (by decide))) ?_
  obtain ⟨p1, p2, p3, p4, p5⟩ := open_J (room := 1000) (n := 0) (s := [115]) (R := [[97], [98]]) (lg := some (frs [[97], [98]], (frs [[97], [98]]).length)) (by decide) (fun x hx => by rcases List.mem_cons.1 hx with rfl | hx; exact ⟨by decide, by decide⟩; rw [List.mem_singleton.1 hx]; exact ⟨by decide, by decide⟩) (.inr ⟨_, Nat.le_refl _, rfl⟩)
  rintro _ _ ⟨M14, hl14, ⟨h, _⟩ | ⟨_, q2, sv2, a5, c5, us, rfl, hsv, hsvo, hsvc, hus, huo, hua, huc, rfl⟩⟩
  · exact absurd p1 h
  rw [p5] at hus
  rw [p4] at hsv
  rw [p2, p3]
  have hs14 : SlM M14 a4 2 1 ([[99, 48], [108, 48]].flatMap sC) := by
    rw [flat_sC]
    have hn1 : nm 99 0 = [99, 48] := by unfold nm; rw [decD_lo (by decide)]; rfl
    have hn2 : nm 108 0 = [108, 48] := by unfold nm; rw [decD_lo (by decide)]; rfl
    rw [hn1, hn2] at hs12
    exact (hs12.mono hl13).mono hl14
  obtain ⟨b4, o4, rfl, hr0⟩ := SlM.cm (g := sC) (k := 0) (fun _ => rfl) hs14 rfl rfl
  obtain ⟨b4', o4', e4, hr1⟩ := SlM.cm (g := sC) (k := 1) (fun _ => rfl) hs14 rfl rfl
  cases e4
  have hul : us.length = 2 := by rw [← List.length_map (f := YB.bs), hus]; rfl
  obtain ⟨u0, u1, rfl⟩ : ∃ u0 u1, us = [u0, u1] := by
    match us, hul with
    | [u0, u1], _ => exact ⟨u0, u1, rfl⟩
  simp only [List.map_cons, List.map_nil, List.cons.injEq, and_true] at hus
  obtain ⟨hu0, hu1⟩ := hus
  have hu1o := (huo u1 (by simp)).1
  obtain ⟨b5, o5, rfl, hr5⟩ := SlM.cm (g := YB.cells) (k := 1) (fun _ => rfl) hua rfl rfl
  obtain ⟨sa, sc, sbs⟩ := sv2
  have hsv2 : sbs = [115] := Option.some.inj hsv
  subst hsv2
  obtain ⟨ua, uc, ubs⟩ := u1
  dsimp only at hu1
  subst hu1
  refine Q.r ?_; (repeat (intro b1; refine Q.r ?_))
  refine S.y (by refine Y.b2s (bs := [115]) (by rfl) ?_; exact hsvo.rd) ?_
  refine Q.r ?_; (repeat (intro b1; refine Q.r ?_))
  refine S.y (by refine Y.b2s (bs := [98]) (by rfl) ?_; exact okYM.rd hu1o) ?_
  refine Q.r ?_; (repeat (intro b1; refine Q.r ?_))
  refine N.r1 (RV.tmp rfl RV.nil) (L' := roM M14 :: L) (by repeat (first | exact Ent.refl _ | exact Ent.nil | refine Ent.pick ?_ | refine Ent.nilS ?_ | refine Ent.nilM ?_ | refine Ent.drop ?_)) ⟨rfl, M14, ?_, rfl⟩
  exact hl1.trans (hl2.trans (hl3.trans (hl4.trans (hl5.trans (hl6.trans (hl7.trans (hl8.trans (hl9.trans (hl10.trans (hl11.trans (hl12.trans (hl13.trans hl14))))))))))))
end Go.Proofs.YtkleenllkjodoaaGreatDoor
namespace Go.SX
open Go Go.ChangeShapes Go.WideShapes Go.RowKit
section
variable {H : Type} {enc : TypeId × Value → H} {P : Program} {W : World}
def Rd (enc : TypeId × Value → H) (P : Program) (W : World) (t : TypeId) (cs : List Value) : Prop := ∃ n x, DataW.trod enc P W 0 (fun _ => true) true n t cs = some x
theorem cells_of {w : World} {base : Nat} {a : Addr} {n : Nat} {cs : List Value} (h : w.cells? base a n = some cs) : cs.length = n ∧ ∀ j, j < n → w.cell? (a.add j) = cs[j]? := by
  unfold World.cells? at h
  split at h
  · exact ⟨by simpa using mapM_some_length h, fun j hj => by simpa using mapM_some_get h j j (by simp [hj])⟩
  · cases h
theorem cell_block {w : World} {a : Addr} {v : Value} (h : w.cell? a = some v) : ∃ l t fz, w.heap[a.block]? = some (.cells l t fz) ∧ l[a.off]? = some v ∧ a.spot = none := by
  unfold World.cell? at h
  split at h
  · rename_i c t fz hb
    split at h
    · cases h
    · rename_i hs
      refine ⟨c, t, fz, hb, h, by simpa using hs⟩
  · cases h
theorem add_at (x y n : Nat) : (⟨x, y, none⟩ : Addr).add n = ⟨x, y + n, none⟩ := by unfold Addr.add; split <;> simp_all
theorem flat_at {sz : Nat} : ∀ {rows : List (List Value)} {j : Nat} {v : Value}, (∀ r ∈ rows, r.length = sz) → rows.flatten[j]? = some v → ∃ k r i, rows[k]? = some r ∧ r[i]? = some v ∧ j = k * sz + i
  | [], j, v, _, h => by simp at h
  | r :: rows, j, v, hr, h => by
    have h0 := hr r (by simp)
    rw [List.flatten_cons] at h
    by_cases hj : j < r.length
    · rw [List.getElem?_append_left hj] at h
      exact ⟨0, r, j, rfl, h, by simp⟩
    · rw [List.getElem?_append_right (by omega)] at h
      obtain ⟨k, r', i, h1, h2, h3⟩ := flat_at (fun x hx => hr x (by simp [hx])) h
      exact ⟨k + 1, r', i, by simpa using h1, h2, by rw [Nat.succ_mul]; omega⟩
theorem Rd.slice {t e : TypeId} {sz : Nat} {cs : List Value} (h : Rd enc P W t cs) (ht : P.underlying t = some (.slice e)) (hs : P.cellsOf e = sz) (h0 : 0 < sz) :
    ∃ (a : Option Addr) (c : Nat) (rows : List (List Value)), cs = [.slice a rows.length c] ∧ rows.length ≤ c ∧ c ≤ maxLen ∧ SlM (all0 W) a rows.length sz rows.flatten ∧ ∀ r ∈ rows, r.length = sz ∧ Rd enc P W e r := by
  obtain ⟨n, x, h⟩ := h
  rcases DataW.trod_slice ht h with ⟨rfl, _⟩ | ⟨a, len, cap, elems, rest, n, rfl, rfl, _, _, hlc, hcm, hel, hat, _⟩
  · exact ⟨none, 0, [], rfl, Nat.le_refl _, Nat.zero_le _, SlM.nil, by simp⟩
  · simp only [hs] at hat
    have hrow : ∀ i, i < len → ∃ r y, W.cells? 0 (a.add (i * sz)) sz = some r ∧ DataW.trod enc P W 0 (fun _ => true) true n e r = some y := fun i hi => by
      have := hat i hi
      have hi' : i < elems.length := by omega
      rw [List.getElem?_eq_getElem hi'] at this
      obtain ⟨r, h1, h2⟩ := Option.bind_eq_some_iff.1 this
      exact ⟨r, _, h1, h2⟩
    let rows := (List.range len).map fun i => (W.cells? 0 (a.add (i * sz)) sz).getD []
    have hrl : rows.length = len := by simp [rows]
    have hri : ∀ i r, rows[i]? = some r → i < len ∧ W.cells? 0 (a.add (i * sz)) sz = some r := fun i r hr => by
      have hi : i < len := by have := (List.getElem?_eq_some_iff.1 hr).1; omega
      obtain ⟨r', y, h1, _⟩ := hrow i hi
      refine ⟨hi, ?_⟩
      simp only [rows, List.getElem?_map, List.getElem?_range hi, Option.map_some, Option.some.injEq, h1, Option.getD_some] at hr
      rw [← hr]; exact h1
    have hmem : ∀ r ∈ rows, r.length = sz ∧ Rd enc P W e r := fun r hr => by
      obtain ⟨i, hi, rfl⟩ := List.getElem_of_mem hr
      obtain ⟨h1, h2⟩ := hri i _ (List.getElem?_eq_getElem hi)
      obtain ⟨r', y, h3, h4⟩ := hrow i h1
      rw [h2] at h3; cases h3
      exact ⟨(cells_of h2).1, n, y, h4⟩
    refine ⟨some a, cap, rows, by rw [hrl], by omega, hcm, ⟨?_, ?_⟩, hmem⟩
    · have : ∀ l : List (List Value), (∀ r ∈ l, r.length = sz) → l.flatten.length = l.length * sz := by
        intro l
        induction l with
        | nil => simp
        | cons r l ih => intro h; rw [List.flatten_cons, List.length_append, h r (by simp), ih (fun x hx => h x (by simp [hx])), List.length_cons, Nat.succ_mul]; omega
      exact this rows fun r hr => (hmem r hr).1
    · by_cases hl0 : len = 0
      · exact .inl (by omega)
      · refine .inr ?_
        obtain ⟨r0, y0, h1, _⟩ := hrow 0 (by omega)
        have h2 := (cells_of h1).2 0 h0
        have hr0 : 0 < r0.length := by rw [(cells_of h1).1]; exact h0
        rw [List.getElem?_eq_getElem hr0] at h2
        obtain ⟨l, tt, fz, hb, hc, hsp⟩ := cell_block h2
        have ea : (a.add (0 * sz)).add 0 = a := by simp [Addr.add]
        rw [ea] at hb hc hsp
        have eA : a = ⟨a.block, a.off, none⟩ := by cases a; simp_all
        refine ⟨a.block, a.off, l, tt, fz, by rw [← eA], hb, fun j v hv => ?_⟩
        obtain ⟨k, r, i, h3, h4, rfl⟩ := flat_at (fun r hr => (hmem r hr).1) hv
        obtain ⟨h5, h6⟩ := hri k r h3
        have hi : i < sz := by rw [← (cells_of h6).1]; exact (List.getElem?_eq_some_iff.1 h4).1
        have h7 := (cells_of h6).2 i hi
        rw [h4] at h7
        have e2 : (a.add (k * sz)).add i = ⟨a.block, a.off + (k * sz + i), none⟩ := by
          rw [eA, add_at, add_at, Nat.add_assoc]
        rw [e2] at h7
        simp only [World.cell?, hb] at h7
        simpa using h7
theorem Rd.list {t e : TypeId} {sz : Nat} {cs : List Value} {α : Type} {g : α → List Value} {Q : α → Prop} (he : ∀ r, Rd enc P W e r → ∃ x, r = g x ∧ Q x) (h : Rd enc P W t cs) (ht : P.underlying t = some (.slice e)) (hs : P.cellsOf e = sz) (h0 : 0 < sz) :
    ∃ (a : Option Addr) (c : Nat) (xs : List α), cs = [.slice a xs.length c] ∧ xs.length ≤ c ∧ c ≤ maxLen ∧ SlM (all0 W) a xs.length sz (xs.flatMap g) ∧ ∀ x ∈ xs, Q x := by
  obtain ⟨a, c, rows, h1, h2, h3, h4, h5⟩ := h.slice ht hs h0
  have key : ∀ rows : List (List Value), (∀ r ∈ rows, r.length = sz ∧ Rd enc P W e r) → ∃ xs : List α, rows = xs.map g ∧ ∀ x ∈ xs, Q x := by
    intro rows
    induction rows with
    | nil => exact fun _ => ⟨[], rfl, by simp⟩
    | cons r rows ih =>
      intro h
      obtain ⟨xs, e1, e2⟩ := ih fun x hx => h x (by simp [hx])
      obtain ⟨x, e3, e4⟩ := he r (h r (by simp)).2
      refine ⟨x :: xs, by rw [List.map_cons, ← e1, ← e3], fun y hy => ?_⟩
      rcases List.mem_cons.1 hy with rfl | hy
      · exact e4
      · exact e2 y hy
  obtain ⟨xs, e1, e2⟩ := key rows h5
  have el : rows.length = xs.length := by rw [e1, List.length_map]
  rw [el] at h1 h2 h4
  refine ⟨a, c, xs, h1, h2, h3, ?_, e2⟩
  rw [List.flatMap_def, ← e1]; exact h4
theorem Rd.int {t : TypeId} {k : IntKind} {cs : List Value} (h : Rd enc P W t cs) (ht : P.underlying t = some (.int k)) : ∃ n, cs = [.int k n] ∧ (Lit.int k n).wf = true := by
  obtain ⟨n, x, h⟩ := h
  obtain ⟨v, h1, _, h2⟩ := DataW.trod_int ht h
  exact ⟨v, h1, h2⟩
theorem Rd.bool {t : TypeId} {cs : List Value} (h : Rd enc P W t cs) (ht : P.underlying t = some .bool) : ∃ b, cs = [.bool b] := by
  obtain ⟨n, x, h⟩ := h
  obtain ⟨v, h1, _⟩ := DataW.trod_bool ht h
  exact ⟨v, h1⟩
theorem Rd.byte {t : TypeId} {cs : List Value} (h : Rd enc P W t cs) (ht : P.underlying t = some (.int .u8)) : ∃ x, cs = [B x] ∧ True := by
  obtain ⟨n, rfl, h1⟩ := h.int ht
  have h2 : 0 ≤ n ∧ n ≤ 255 := bounds_u8 h1
  refine ⟨UInt8.ofNat n.toNat, ?_, trivial⟩
  have : (UInt8.ofNat n.toNat).toNat = n.toNat := by simp; omega
  simp only [B, this]
  rw [Int.toNat_of_nonneg h2.1]
theorem Rd.bytes {t e : TypeId} {cs : List Value} (h : Rd enc P W t cs) (ht : P.underlying t = some (.slice e)) (he : P.underlying e = some (.int .u8)) (hs : P.cellsOf e = 1) :
    ∃ (a : Option Addr) (c : Nat) (bs : List UInt8), cs = [.slice a bs.length c] ∧ bs.length ≤ c ∧ c ≤ maxLen ∧ SlM (all0 W) a bs.length 1 (bs.map B) := by
  obtain ⟨a, c, xs, h1, h2, h3, h4, _⟩ := Rd.list (g := fun x => [B x]) (fun r hr => hr.byte he) h ht hs (by omega)
  refine ⟨a, c, xs, h1, h2, h3, ?_⟩
  have key : ∀ xs : List UInt8, xs.flatMap (fun x => [B x]) = xs.map B := fun xs => by induction xs with
    | nil => rfl
    | cons x xs ih => rw [List.flatMap_cons, ih]; rfl
  rwa [key] at h4
theorem args_again (K : Kids P (· < P.types.size)) (hz : ∀ t e, t < P.types.size → P.underlying t = some (.slice e) → 0 < P.cellsOf e) {W' : World} {ts : List TypeId} {vs : List Value} {ds : List (DataW H)} {ps : List MemPlace} (hT : ∀ t ∈ ts, t < P.types.size)
    (h : DataW.TrodAll enc P W 0 (fun _ => true) true ts vs ds ps) (hk : Kept W W') (sp : Nat → Bool) (hs : ∀ p ∈ ps, sp p.block = true) : DataW.TrodAll enc P W' 0 sp true ts vs ds ps :=
  DataW.TrodAll.respare K hz hT (trodAll_kept hk h) hs
theorem trodAll_rd : ∀ {ts : List TypeId} {vs : List Value} {ds : List (DataW H)} {ps : List MemPlace}, DataW.TrodAll enc P W 0 (fun _ => true) true ts vs ds ps → vs.length = ts.length ∧ ds.length = ts.length ∧ ∀ (i : Nat) (t : TypeId) (v : Value), ts[i]? = some t → vs[i]? = some v → Rd enc P W t v.cells.toList
  | [], [], [], _, _ => ⟨rfl, rfl, fun i t v h => by simp at h⟩
  | t :: ts, v :: vs, d :: ds, ps, ⟨p, q, ⟨n, h1⟩, h2, _⟩ => by
    obtain ⟨e1, e2, e3⟩ := trodAll_rd h2
    refine ⟨by simp [e1], by simp [e2], fun i t' v' h h' => ?_⟩
    cases i with
    | zero => simp at h h'; subst h h'; exact ⟨n, _, h1⟩
    | succ i => exact e3 i t' v' (by simpa using h) (by simpa using h')
structure Arg (enc : TypeId × Value → H) (P : Program) (W : World) (t : TypeId) (v : Value) : Prop where
  rd : Rd enc P W t v.cells.toList
  ok : ∃ base, Value.okWide P W .any base t v
theorem Arg.int {t : TypeId} {k : IntKind} {v : Value} (h : Arg enc P W t v) (ht : P.underlying t = some (.int k)) : ∃ n, v = .int k n ∧ (Lit.int k n).wf = true := by
  obtain ⟨r, _, o⟩ := h
  obtain ⟨n, rfl⟩ := okWide_int ht o
  obtain ⟨m, h1, h2⟩ := r.int ht
  simp [Value.cells] at h1
  subst h1
  exact ⟨n, rfl, h2⟩
theorem Arg.bool {t : TypeId} {v : Value} (h : Arg enc P W t v) (ht : P.underlying t = some .bool) : ∃ b, v = .bool b := by
  obtain ⟨r, _, o⟩ := h
  exact okWide_bool ht o
theorem Arg.list {t e : TypeId} {sz : Nat} {v : Value} {α : Type} {g : α → List Value} {Q : α → Prop} (h : Arg enc P W t v) (he : ∀ r, Rd enc P W e r → ∃ x, r = g x ∧ Q x) (ht : P.underlying t = some (.slice e)) (hs : P.cellsOf e = sz) (h0 : 0 < sz) :
    ∃ (a : Option Addr) (c : Nat) (xs : List α), v = .slice a xs.length c ∧ xs.length ≤ c ∧ c ≤ 9223372036854775807 ∧ SlM (all0 W) a xs.length sz (xs.flatMap g) ∧ ∀ x ∈ xs, Q x := by
  obtain ⟨r, _, o⟩ := h
  obtain ⟨a, l, c, rfl⟩ := okWide_slice ht o
  obtain ⟨a', c', xs, h1, h2, h3, h4, h5⟩ := r.list he ht hs h0
  simp [Value.cells] at h1
  obtain ⟨rfl, rfl, rfl⟩ := h1
  exact ⟨_, _, xs, rfl, h2, h3, h4, h5⟩
theorem row_post {f : FuncId} {F : Func} {s : ChangeSpec} {tb : TypeId} {args : Array Value} {ds gs : List (DataW H)} {before : List MemPlace} {handsOn again : Bool} (K : Kids P (· < P.types.size)) (hz : ∀ t e, t < P.types.size → P.underlying t = some (.slice e) → 0 < P.cellsOf e)
    (hT : (F.params.toList.all fun t => decide (t < P.types.size)) = true) (hvs : s.vars = []) (hfn : ∀ ds : List (DataW H), ds.length = F.params.toList.length → s.fn H ds = { results := [.lit (.bool true)], args := ds }) (hrt : F.resultTypes = #[tb]) (htb : P.underlying tb = some .bool)
    {base : Nat} (hval : ∀ (j : Nat) t v, F.params[j]? = some t → args[j]? = some v → Value.okWide P W .any base t v)
    (hW : DataW.Whole enc P F.params.toList s.vars false W args.toList ds gs before)
    (hw : (∀ (i : Nat) (t : TypeId) (v : Value), F.params.toList[i]? = some t → args.toList[i]? = some v → Arg enc P W t v) → args.toList.length = F.params.toList.length → CallsS P f args.toList [roM (all0 W)] (fun v _ => v = .bool true)) :
    Calls P f args W fun e W' => ∃ v, e = .returned v ∧ s.post enc P F false true handsOn again W args v W' := by
  have hW' := hW
  obtain ⟨p, q, hA, hV, rfl, hfz, hnd⟩ := hW
  rw [hvs] at hV
  obtain ⟨rfl, rfl⟩ : gs = [] ∧ q = [] := by
    cases gs with
    | nil => exact ⟨rfl, hV⟩
    | cons g gs => exact hV.elim
  obtain ⟨h1, h2, h3⟩ := trodAll_rd hA
  have hc := (hw (fun i t v e1 e2 => ⟨h3 i t v e1 e2, base, hval i t v (by simpa using e1) (by simpa using e2)⟩) h1).kept
  refine hc.mono fun e W' ⟨he, hk⟩ => ?_
  subst he
  have hf := hfn ds h2
  refine ⟨_, rfl, post_kept (pa := p) (pv := []) hW' (fun b sp hd => ?_) (fun sp hsp => ?_) (fun sp _ => ?_) rfl hk ?_⟩
  · rw [hrt, List.append_nil, hf]
    exact trodAll_cons_mk (shut_bool htb _) trodAll_mk0
  · rw [List.append_nil, hf]
    exact args_again K hz (fun t ht => of_decide_eq_true (List.all_eq_true.1 hT t ht)) hA hk sp (fun x hx => hsp x (by simp [hx]))
  · rw [hvs, List.append_nil, hf]; rfl
  · exact ok_one hrt rfl (okWide_bool_mk htb _)
end
end Go.SX
namespace Go.Proofs.YtkleenllkjodoaaGreatDoor
open Go Go.SX Go.ChangeShapes Go.WideShapes Go.ChangeAt Go.RowKit
abbrev laidL : List (String × DataW Unit) := [("math/bits.deBruijn32tab", Rows.laid_math_bits_deBruijn32tab), ("math/bits.deBruijn64tab", Rows.laid_math_bits_deBruijn64tab), ("internal/strconv.uint64pow10", Rows.laid_internal_strconv_uint64pow10), ("strconv.ErrRange", Rows.laid_strconv_ErrRange), ("strconv.ErrSyntax", Rows.laid_strconv_ErrSyntax), ("armillary/seal.nibble", Rows.laid_armillary_seal_nibble)]
theorem gNib : Tryz.prog.globalNamed "armillary/seal.nibble" = some 0 := by kernel_rfl
theorem gNibT : (Tryz.prog.globals[0]?).map (·.type) = some 125 := by kernel_rfl
theorem gErr : Tryz.prog.globalNamed "strconv.ErrSyntax" = some 3 := by kernel_rfl
theorem gErrT : (Tryz.prog.globals[3]?).map (·.type) = some 130 := by kernel_rfl
theorem starE : "*" ++ "errors.errorString" = "*errors.errorString" := by decide
theorem rowE (u : TypeId) (h : Tryz.prog.typeName? 3 u = some "*errors.errorString") : u = 184 :=
  typeName_ptr_named (nm := "errors.errorString") (by rw [starE]; kernel_rfl) (by kernel_rfl) (by decide) u (by rw [starE]; exact h)
theorem nib_is : (Rows.laid_armillary_seal_nibble : DataW Unit) = Lib.tabData .u32 (nibT.map fun z : Nat => (z : Int)) := by kernel_rfl
theorem heap_var {W : World} {n : String} {g : Nat} {cs : Array Value} (hg : Tryz.prog.globalNamed n = some g) (h : W.var? Tryz.prog n = some cs) : ∃ t fz, W.heap[g]? = some (.cells cs t fz) := by
  unfold World.var? at h
  rw [hg] at h
  simp only [Option.bind_some] at h
  cases hb : W.heap[g]? with
  | none => rw [hb] at h; cases h
  | some o =>
    rw [hb] at h
    cases o with
    | cells l t fz => dsimp only at h; cases h; exact ⟨t, fz, rfl⟩
    | _ => cases h
theorem nib_of_laid {W : World} (h : laidMet Tryz.prog laidL W) : NibM (all0 W) := by
  have h1 := h.tail.tail.tail.tail.tail
  rw [nib_is] at h1
  have h2 := Lib.tabIs_of_head gNib gNibT Tryz.underlying125 Tryz.underlying108 (by kernel_rfl) (by kernel_rfl) h1
  obtain ⟨t, fz, h3⟩ := heap_var gNib h2
  refine ⟨by decide, .inr ⟨0, 0, _, t, fz, rfl, h3, fun j v hv => ?_⟩⟩
  rw [Nat.zero_add]
  simpa [nibC, List.map_map] using hv
theorem err_of_laid {W : World} (h : laidMet Tryz.prog laidL W) : ErrM (all0 W) := by
  have h1 := h.tail.tail.tail.tail
  obtain ⟨a, s, h2, _⟩ := laid_sentinel h1 gErr gErrT Tryz.underlying130 rowE Tryz.underlying184 Tryz.underlying186 rfl rfl Tryz.underlying9 (by kernel_rfl) (by kernel_rfl)
  obtain ⟨t, fz, h3⟩ := heap_var gErr h2
  refine ⟨184, .pointer (some a), rfl, .inr ⟨3, 0, _, t, fz, rfl, h3, fun j v hv => ?_⟩⟩
  rw [Nat.zero_add]
  simpa using hv
theorem laid_fits (os : Os) : (World.holding Tryz.prog os ⟨#[], #[], []⟩).layFits Tryz.prog laidL [] = true := by kernel_rfl
theorem laid_ifaces (os : Os) : (World.holding Tryz.prog os ⟨#[], #[], []⟩).layIfaces Tryz.prog laidL (World.laidAll Tryz.prog os laidL) = true := by kernel_rfl
theorem laid_all (os : Os) (args : Array Value) : laidMet Tryz.prog laidL ((World.laidAll Tryz.prog os laidL).forCall (fun _ _ => 0) ⟨#[], args, []⟩).memory := laidMet_laidAll args (laid_fits os) (laid_ifaces os)
theorem Rd.yb {H : Type} {enc : TypeId × Value → H} {W : World} {cs : List Value} (h : Rd enc Tryz.prog W 31 cs) : ∃ v : YB, cs = v.cells ∧ (okYM (all0 W) v ∧ v.bs.length ≤ v.c) := by
  obtain ⟨a, c, bs, h1, h2, h3, h4⟩ := Rd.bytes h Tryz.underlying31 Tryz.underlying5 (by kernel_rfl)
  exact ⟨⟨a, c, bs⟩, h1, h4, h2⟩
end Go.Proofs.YtkleenllkjodoaaGreatDoor
namespace Go.Proofs.YtkleenllkjodoaaGreatDoor
open Go Go.SX
attribute [local irreducible] swp opsS thenS blockS retS CallsS St Ent YieldS anyS drawS
abbrev rjC (n : Nat) (s : YB) (ra : Option Addr) (rc m f : Nat) (lg : Bool) (room : Int) : List Value := [.int .i64 n, s.val, .slice ra m rc, .int .i64 f, .bool lg, .int .i64 room]
abbrev rjP (b n : Nat) (s : YB) (ra : Option Addr) (rc m f : Nat) (lg : Bool) (room : Int) : HP := pt b (cl (rjC n s ra rc m f lg room) 66)
def begR (room : Int) (u : YB) (M : Nat → Option Obj) (L : List HP) (r : Value) (L' : List HP) : Prop :=
  ∃ M', leM M M' ∧ ((room < (stP u.bs).length ∧ r = .tuple #[nilP, nilP, nilP] ∧ L' = roM M' :: L) ∨
    (¬ room < (stP u.bs).length ∧ ∃ q p b, r = .tuple #[ptrD q, ptrD p, ptrD b] ∧ L' = jnP q p 0 0 false :: diskH p (dJ room 0 u.bs none) :: rjP b 0 u none 0 0 0 false room :: roM M' :: L))
set_option maxHeartbeats 4000000 in
theorem begin_spec (room : Int) (u : YB) (M : Nat → Option Obj) (L : List HP) (hr : 0 ≤ room ∧ room ≤ 1048576) (hu : okYM M u) (huc : u.bs.length ≤ u.c) (hl : u.bs.length ≤ 1048575) (hE : ErrM M) (hT : NibM M) :
    CallsS Tryz.prog 10 [.int .i64 room, u.val] (roM M :: L) (begR room u M L) := by
  refine CallsS.of_body Tryz.func10 rfl rfl rfl ?_
  refine Q.r ?_; (repeat (intro b1; refine Q.r ?_))
  refine S.cr rfl (DNew_spec room _ hr) ?_
  rintro _ _ ⟨p, rfl, rfl⟩
  refine Q.r ?_; (repeat (intro b1; refine Q.r ?_))
  obtain ⟨f1, f2⟩ := fo_0 room u.bs
  refine S.ckm p rfl (Format_spec p (D0 room) u.a u.c u.bs M _ hu hT huc hl) ?_
  rintro _ _ ⟨rfl, M1, hl1, rfl⟩
  rw [f1]
  by_cases hf : room < (stP u.bs).length
  · rw [if_pos hf]
    refine Q.r ?_; (repeat (intro b1; refine Q.r ?_))
    exact N.r3 (RV.tmp rfl (RV.tmp rfl (RV.tmp rfl RV.nil))) (L' := roM M1 :: L) (by repeat (first | exact Ent.refl _ | exact Ent.nil | refine Ent.pick ?_ | refine Ent.nilS ?_ | refine Ent.nilM ?_ | refine Ent.drop ?_)) ⟨M1, hl1, .inl ⟨hf, rfl, rfl⟩⟩
  · rw [if_neg hf, f2 hf]
    refine Q.r ?_; (repeat (intro b1; refine Q.r ?_))
    refine S.ckm p rfl (Open_spec p _ M1 _ (hE.mono hl1) (hT.mono hl1) (goodJ (by decide))) ?_
    obtain ⟨o1, o2, o3, o4, o5⟩ := open_J (room := room) (n := 0) (s := u.bs) (R := []) (lg := none) (by decide) (fun x hx => by cases hx) (.inl ⟨rfl, rfl⟩)
    rintro _ _ ⟨M2, hl2, ⟨h, _⟩ | ⟨_, q, sv, a, c, vs, rfl, hsv, hso, _, hvs, _, _, _, rfl⟩⟩
    · exact absurd o1 h
    rw [o5] at hvs
    rw [o4] at hsv
    have hsv2 : sv.bs = u.bs := Option.some.inj hsv
    have hvl : vs.length = 0 := by rw [← List.length_map (f := YB.bs), hvs]; rfl
    rw [o2, o3, hvl, Option.map_none]
    refine Q.r ?_; (repeat (intro b1; refine Q.r ?_))
    refine S.cr rfl (YSame_spec sv u _ hso.rd (hu.mono (hl1.trans hl2)).rd) ?_
    rintro _ _ ⟨rfl, rfl⟩
    rw [decide_eq_true hsv2]
    refine Q.r ?_; (repeat (intro b1; refine Q.r ?_))
    exact N.r3 (RV.tmp rfl (RV.tmp rfl (RV.tmp rfl RV.nil))) (L' := jnP q p 0 0 false :: diskH p (dJ room 0 u.bs none) :: rjP b1 0 u none 0 0 0 false room :: roM M2 :: L) (by repeat (first | exact Ent.refl _ | exact Ent.nil | refine Ent.pick ?_ | refine Ent.nilS ?_ | refine Ent.nilM ?_ | refine Ent.drop ?_)) ⟨M2, hl1.trans hl2, .inr ⟨hf, q, p, b1, rfl, rfl⟩⟩
end Go.Proofs.YtkleenllkjodoaaGreatDoor
namespace Go.Proofs.YtkleenllkjodoaaGreatDoor
open Go Go.SX
attribute [local irreducible] swp opsS thenS blockS retS CallsS St Ent YieldS anyS drawS
theorem nilY (M : Nat → Option Obj) : okYM M ⟨none, 0, []⟩ := SlM.nil
theorem stP_nil : (stP []).length = 6 := by
  rw [stP_frs, frs_len]; rw [chL_nil]; rfl
end Go.Proofs.YtkleenllkjodoaaGreatDoor
namespace Go.SX
open Go
def EntX (L : List HP) (F : List HP → Prop) : Prop := ∀ w G, St w (L ++ G) → ∃ L2, F L2 ∧ St w (L2 ++ G)
theorem EntX.ent {L L' : List HP} {F : List HP → Prop} (h : Ent L L') (hk : EntX L' F) : EntX L F := fun w G t => hk w G (h w G t)
theorem EntX.done {L : List HP} {F : List HP → Prop} (h : F L) : EntX L F := fun _ _ t => ⟨L, h, t⟩
theorem EntX.ex {α : Sort _} {X : α → HP} {L : List HP} {F : List HP → Prop} (h : ∀ x, EntX (X x :: L) F) : EntX (exH X :: L) F := fun w G t => let ⟨x, t⟩ := St.open_ex t; h x w G t
theorem EntX.pure {φ : Prop} {L : List HP} {F : List HP → Prop} (h : φ → EntX L F) : EntX (pureH φ :: L) F := fun w G t => let ⟨x, t⟩ := St.open_pure t; h x w G t
theorem EntX.abs (a : Option Addr) {t sz m c : Nat} {cs : List Value} {M : Nat → Option Obj} {L L0 L1 : List HP} {F : List HP → Prop} [h : PickS a L t sz m c cs L0] [h1 : PickM L0 M L1] (hk : ∀ M', leM M M' → SlM M' a m sz cs → EntX (roM M' :: L1) F) : EntX L F :=
  EntX.ent h.ent (EntX.ent Ent.absorb (EntX.ex fun M' => EntX.ent Ent.open_all (EntX.pure fun h => hk M' h.1 h.2)))
theorem CallsS.post {P : Program} {g : FuncId} {args : List Value} {L : List HP} {R R' : Value → List HP → Prop} (h : CallsS P g args L R) (hR : ∀ v L1, R v L1 → EntX L1 (R' v)) : CallsS P g args L R' := by
  intro F w t
  refine (h F w t).mono ?_
  rintro e w' ⟨v, M, rfl, t', r⟩
  obtain ⟨L2, h1, h2⟩ := hR v M r w' F t'
  exact ⟨v, L2, rfl, h2, h1⟩
end Go.SX
namespace Go.Proofs.YtkleenllkjodoaaGreatDoor
open Go Go.SX
attribute [local irreducible] swp opsS thenS blockS retS CallsS St Ent YieldS anyS drawS
theorem UsedH_spec (p : Nat) (d : DK) (L : List HP) : CallsS Tryz.prog 12 [ptrD p] (diskH p d :: L) (fun r L' => r = .int .i64 (usedD d.fs) ∧ L' = diskH p d :: L) := by
  refine calls_disk fun mp ts hd => ?_
  refine (Used_spec p mp d ts L hd).post fun r L' h => ?_
  obtain ⟨rfl, rfl⟩ := h
  exact EntX.ent (disk_shut hd) (EntX.done ⟨rfl, rfl⟩)
theorem set_flatY (us : List YB) (j : Nat) (v : YB) : (us.flatMap YB.cells).set j v.val = (us.set j v).flatMap YB.cells := by
  induction us generalizing j with
  | nil => rfl
  | cons u us ih => cases j with
    | zero => rfl
    | succ j => rw [List.set_cons_succ, List.flatMap_cons, List.flatMap_cons, ← ih]; rfl
theorem ptC_okRc {rs : List (List UInt8)} (h : ptC rs = 0) : okRc rs := by
  unfold ptC at h
  split at h
  · cases h
  · next h0 =>
    unfold cdL at h
    split at h
    · cases h
    · next h1 => exact fun x hx => ⟨Nat.le_of_not_lt fun hh => h1 ⟨x, hx, hh⟩, fun hh => h0 ⟨x, hx, hh⟩⟩
theorem all_put {room : Int} (rs : List (List UInt8)) : ∃ (e : Int) (k : Nat) (lg : Option (List UInt8 × Nat)) (R : List (List UInt8)),
    ptE ⟨dJ room 0 [] none, 0, 0, false⟩ rs = e ∧ ptS ⟨dJ room 0 [] none, 0, 0, false⟩ rs = ⟨dJ room 0 [] lg, 0, k, false⟩ ∧ (e ≠ 0 → R = []) ∧ (e = 0 → R = rs) ∧ okRc R ∧ ((lg = none ∧ R = []) ∨ ∃ f, f ≤ (frs R).length ∧ lg = some (frs R, f)) ∧ (e ≠ 0 → lg = none) := by
  have hnil : okRc [] := fun x hx => by cases hx
  by_cases hc : ptC rs = 0
  · by_cases hr : rs = []
    · obtain ⟨h1, h2⟩ := put_no (s := ⟨dJ room 0 [] none, 0, 0, false⟩) (rs := rs) rfl (.inr hr)
      refine ⟨0, 0, none, [], by rw [h1, hc], h2, fun _ => rfl, fun _ => hr.symm, hnil, .inl ⟨rfl, rfl⟩, fun _ => rfl⟩
    · obtain ⟨h1, h2⟩ := put_J (room := room) (n := 0) (k := 0) (s := []) (lg := none) hc hr
      by_cases hf : room < ((stP []).length + (lgB none).length : Nat) + ((frs rs).length : Nat)
      · obtain ⟨h3, h4⟩ := h1 hf
        exact ⟨8, 0, none, [], h3, h4, fun _ => rfl, fun h => absurd h (by decide), hnil, .inl ⟨rfl, rfl⟩, fun _ => rfl⟩
      · obtain ⟨h3, h4⟩ := h2 hf
        exact ⟨0, 0 + rs.length, _, rs, h3, h4, fun h => absurd rfl h, fun _ => rfl, ptC_okRc hc, .inr ⟨0, Nat.zero_le _, rfl⟩, fun h => absurd rfl h⟩
  · obtain ⟨h1, h2⟩ := put_no (s := ⟨dJ room 0 [] none, 0, 0, false⟩) (rs := rs) rfl (.inl hc)
    exact ⟨ptC rs, 0, none, [], h1, h2, fun _ => rfl, fun h => absurd h hc, hnil, .inl ⟨rfl, rfl⟩, fun _ => rfl⟩
set_option maxHeartbeats 8000000 in
theorem JournalAll_spec (room : Nat) (a : Option Addr) (c : Nat) (vs : List YB) (odd : Nat) (M : Nat → Option Obj) (L : List HP) (hrm : room ≤ 65535) (hodd : odd ≤ 255) (h : SlM M a vs.length 1 (vs.flatMap YB.cells)) (hok : okYs M vs) (hl : vs.length ≤ 9223372036854775807) (hE : ErrM M) (hT : NibM M) :
    CallsS Tryz.prog 3 [.int .u16 room, .slice a vs.length c, .int .u8 odd] (roM M :: L) (fun v _ => v = .bool true) := by
  refine CallsS.of_body Tryz.func3 rfl rfl rfl ?_
  refine Q.r ?_; (repeat (intro b1; refine Q.r ?_))
  refine S.cr rfl (awakeJ_spec M _ hE hT) ?_
  rintro _ _ ⟨rfl, M1, hl1, rfl⟩
  have hE1 := hE.mono hl1
  have hT1 := hT.mono hl1
  refine Q.r ?_; (repeat (intro b1; refine Q.r ?_))
  refine S.y (Y.cvi rfl) ?_
  rw [wrap64 (by omega)]
  refine Q.r ?_; (repeat (intro b1; refine Q.r ?_))
  refine S.y (Y.rem rfl rfl (by decide)) ?_
  rw [show Int.tmod (room : Int) 600 = ((room % 600 : Nat) : Int) from rfl]
  obtain ⟨rm, hrm2⟩ : ∃ rm, rm = room % 600 := ⟨_, rfl⟩
  rw [← hrm2]
  have hrm3 : rm < 600 := by omega
  refine Q.r ?_; (repeat (intro b1; refine Q.r ?_))
  have hfit : ¬ (40 + (rm : Int)) < ((stP (YB.bs ⟨none, 0, []⟩)).length : Nat) := by rw [show YB.bs ⟨none, 0, []⟩ = [] from rfl, stP_nil]; omega
  refine S.cr rfl (begin_spec (40 + rm) ⟨none, 0, []⟩ M1 _ (by omega) (nilY _) (Nat.le_refl _) (by decide) hE1 hT1) ?_
  rintro _ _ ⟨M2, hl2, ⟨hx, _⟩ | ⟨_, q1, p1, b1', rfl, rfl⟩⟩
  · exact absurd hx hfit
  refine Q.r ?_; (repeat (intro b1; refine Q.r ?_))
  refine opsS_ent (L' := roM M2 :: jnP q1 p1 0 0 false :: diskH p1 (dJ (40 + rm) 0 [] none) :: L) (by repeat (first | exact Ent.refl _ | exact Ent.nil | refine Ent.pick ?_ | refine Ent.nilS ?_ | refine Ent.nilM ?_ | refine Ent.drop ?_)) ?_
  refine S.cr rfl (Few6_spec a c vs 6 200 M2 _ ((h.mono hl1).mono hl2) ((hok.mono hl1).mono hl2) (by decide) (by decide) hl) ?_
  rintro _ _ ⟨a4, c4, rfl, us0, M4, hus, huo0, hl4, rfl⟩
  rw [← hus, List.length_map]
  have hul : us0.length ≤ 6 := by
    have := congrArg List.length hus
    rw [List.length_map, List.length_map, List.length_take] at this; omega
  have hub0 : ∀ u ∈ us0, u.bs.length ≤ 200 := fun u hu => by
    have : u.bs ∈ us0.map YB.bs := List.mem_map_of_mem hu
    rw [hus] at this
    obtain ⟨v, _, hv⟩ := List.mem_map.1 this
    rw [← hv, List.length_take]; omega
  repeat (first | (refine GQ.y ?_; refine Q.y ?_) | (refine GQ.a ?_; refine Q.al (fun b1 => ?_)) | (refine GQ.s ?_; refine Q.st ?_) | (refine GQ.g ?_; refine Q.gq ?_))
  refine opsS_nil ?_
  refine N.tn ?_
  refine swp_seq ?_
  refine swp_cutT (σ := List YB) (fun us => [(7, ptrD q1), (8, ptrD p1), (10, .slice a4 us.length c4)])
    (fun us => slO 31 1 a4 us.length c4 (us.flatMap YB.cells) :: roM M4 :: jnP q1 p1 0 0 false :: diskH p1 (dJ (40 + rm) 0 [] none) :: L) (fun us => us.length ≤ 6 ∧ okYs M4 us ∧ ∀ u ∈ us, u.bs.length ≤ 200) ?_ ?_
  · obtain ⟨z, hz⟩ : ∃ z, z = IntKind.u8.wrap ((BitVec.ofInt IntKind.u8.bits (odd : Int)) &&& (BitVec.ofInt IntKind.u8.bits 1)).toNat := ⟨_, rfl⟩
    by_cases hz1 : z = 1
    · by_cases h0 : us0.length = 0
      · refine Q.r ?_; (repeat (intro b1; refine Q.r ?_))
        refine S.y (Y.and rfl rfl) ?_
        rw [← hz]
        refine Q.r ?_; (repeat (intro b1; refine Q.r ?_))
        exact ⟨us0, ⟨rfl, rfl, rfl, trivial⟩, Ent.refl _, hul, huo0, hub0⟩
      · have hpos : (0 : Int) < us0.length := by omega
        refine Q.r ?_; (repeat (intro b1; refine Q.r ?_))
        refine S.y (Y.and rfl rfl) ?_
        rw [← hz]
        refine Q.r ?_; (repeat (intro b1; refine Q.r ?_))
        refine S.y (Y.shr (b := 1) rfl rfl (by decide)) ?_
        repeat (first | (refine GQ.y ?_; refine Q.y ?_) | (refine GQ.a ?_; refine Q.al (fun b1 => ?_)) | (refine GQ.s ?_; refine Q.st ?_) | (refine GQ.g ?_; refine Q.gq ?_))
        refine S.y (Y.cvi rfl) ?_
        rw [wrap64 (by omega)]
        repeat (first | (refine GQ.y ?_; refine Q.y ?_) | (refine GQ.a ?_; refine Q.al (fun b1 => ?_)) | (refine GQ.s ?_; refine Q.st ?_) | (refine GQ.g ?_; refine Q.gq ?_))
        refine S.y (Y.rem rfl rfl (by omega)) ?_
        obtain ⟨j, hj⟩ : ∃ j, j = odd / 2 ^ 1 % us0.length := ⟨_, rfl⟩
        rw [show Int.tmod ((odd / 2 ^ 1 : Nat) : Int) (us0.length : Int) = ((odd / 2 ^ 1 % us0.length : Nat) : Int) from rfl, ← hj]
        have hjl : j < us0.length := by rw [hj]; exact Nat.mod_lt _ (by omega)
        refine opsS_sl a4 (fun hcl ha hcap => ?_)
        obtain ⟨b, rfl⟩ := ha.resolve_left h0
        refine S.y (Y.iaN rfl rfl hjl) ?_
        refine S.stO rfl rfl rfl (by rw [hcl]; omega) rfl ?_
        refine Q.r ?_; (repeat (intro b1; refine Q.r ?_))
        refine ⟨us0.set j ⟨none, 0, []⟩, ⟨rfl, rfl, congrArg some (by rw [List.length_set]), trivial⟩, ?_, by rw [List.length_set]; exact hul, fun u hu => ?_, fun u hu => ?_⟩
        · rw [List.length_set, ← set_flatY]
          rw [Nat.zero_add, Nat.mul_one]
          exact Ent.refl _
        · rcases List.mem_or_eq_of_mem_set hu with hu | rfl
          · exact huo0 u hu
          · exact ⟨nilY _, Nat.le_refl _⟩
        · rcases List.mem_or_eq_of_mem_set hu with hu | rfl
          · exact hub0 u hu
          · exact Nat.zero_le _
    · refine Q.r ?_; (repeat (intro b1; refine Q.r ?_))
      refine S.y (Y.and rfl rfl) ?_
      rw [← hz]
      refine Q.r ?_; (repeat (intro b1; refine Q.r ?_))
      exact ⟨us0, ⟨rfl, rfl, rfl, trivial⟩, Ent.refl _, hul, huo0, hub0⟩
  · rintro us ⟨hul2, huo, hub⟩
    refine Q.r ?_; (repeat (intro b1; refine Q.r ?_))
    refine S.ck p1 rfl (UsedH_spec p1 _ _) ?_
    rintro _ _ ⟨rfl, rfl⟩
    refine Q.r ?_; (repeat (intro b1; refine Q.r ?_))
    refine opsS_absc a4 (fun M5 hl5 hs5 hc5 => ?_)
    have hl15 := hl2.trans (hl4.trans hl5)
    have hE5 := hE1.mono hl15
    have hT5 := hT1.mono hl15
    refine Q.r ?_; (repeat (intro b1; refine Q.r ?_))
    obtain ⟨rs, hrs⟩ : ∃ rs, rs = us.map YB.bs := ⟨_, rfl⟩
    obtain ⟨e, k, lg, R, he, hS, hR0, hR1, hok2, hlg, hef⟩ := all_put (room := 40 + (rm : Int)) rs
    refine opsS_ent (L' := jnP q1 p1 0 0 false :: diskH p1 (dJ (40 + rm) 0 [] none) :: roM M5 :: L) (by repeat (first | exact Ent.refl _ | exact Ent.nil | refine Ent.pick ?_ | refine Ent.nilS ?_ | refine Ent.nilM ?_ | refine Ent.drop ?_)) ?_
    refine S.cr rfl (JPut_spec p1 q1 ⟨dJ (40 + rm) 0 [] none, 0, 0, false⟩ a4 c4 us M5 _ (Nat.le_of_ble_eq_true rfl) (Nat.zero_le _) (Nat.le_trans (dJ_len _ _ _ _) (by decide)) hs5 (huo.mono hl5) hT5 (by omega) (fun v hv => by have := hub v hv; omega)) ?_
    rintro _ _ ⟨rfl, M6, hl6, rfl⟩
    rw [← hrs, he, hS]
    refine opsS_ent (L' := jnP q1 p1 0 k false :: diskH p1 (dJ (40 + rm) 0 [] lg) :: roM M6 :: L) (Ent.refl _) ?_
    refine Q.r ?_; (repeat (intro b1; refine Q.r ?_))
    refine S.ckm p1 rfl (Open_spec p1 _ M6 _ (hE5.mono hl6) (hT5.mono hl6) (goodJ (by decide))) ?_
    obtain ⟨o1, o2, o3, o4, o5⟩ := open_J (room := 40 + (rm : Int)) (n := 0) (s := []) (R := R) (lg := lg) (by decide) hok2 hlg
    rintro _ _ ⟨M7, hl7, ⟨h, _⟩ | ⟨_, q, sv, ao, co, vs2, rfl, hsv, hso, _, hvs, hvo, hvS, _, rfl⟩⟩
    · exact absurd o1 h
    rw [o5] at hvs
    rw [o2, o3]
    refine Q.r ?_; (repeat (intro b1; refine Q.r ?_))
    have hcnt : vs2.length = R.length := by rw [← hvs, List.length_map]
    refine Q.dgo [true] [4] [] [0, 1, 2, 3, 5, 6, 7, 4, 8, 9] ?_
    repeat (first | refine D.endA ?_ | refine Q.dp rfl rfl rfl ?_ | refine Q.dy rfl rfl rfl ?_ | refine D.end_ ?_ | refine Q.endH ?_ | (refine D.e rfl rfl rfl ?_; (first | refine S.gskip1 rfl ?_ | refine S.gskip rfl ?_ | refine S.y (Y.gskipU rfl) ?_); refine opsS_nil ?_; refine N.tn ?_))
    refine D.e rfl rfl rfl ?_
    (refine GQ.g ?_; refine Q.gq ?_)
    refine S.cr rfl (Count_spec q p1 0 vs2.length false _) ?_
    rintro _ _ ⟨rfl, rfl⟩
    refine Q.r ?_; (repeat (intro b1; refine Q.r ?_))
    repeat (first | refine D.endA ?_ | refine Q.dp rfl rfl rfl ?_ | refine Q.dy rfl rfl rfl ?_ | refine D.end_ ?_ | refine Q.endH ?_ | (refine D.e rfl rfl rfl ?_; (first | refine S.gskip1 rfl ?_ | refine S.gskip rfl ?_ | refine S.y (Y.gskipU rfl) ?_); refine opsS_nil ?_; refine N.tn ?_))
    by_cases he0 : e = 0
    · have hRr := hR1 he0
      refine Q.r ?_; (repeat (intro b1; refine Q.r ?_))
      refine opsS_ent (L' := roM M7 :: pt b1 (cl [sv.val, .slice ao vs2.length co] 37) :: L) (by repeat (first | exact Ent.refl _ | exact Ent.nil | refine Ent.pick ?_ | refine Ent.nilS ?_ | refine Ent.nilM ?_ | refine Ent.drop ?_)) ?_
      refine S.cr rfl (Same6_spec ao a4 co c4 vs2 us M7 _ hvS hvo ((hs5.mono hl6).mono hl7) ((huo.mono hl5).mono (hl6.trans hl7)) (by rw [hcnt, hRr, hrs, List.length_map]; omega)) ?_
      rintro _ _ ⟨rfl, rfl⟩
      refine Q.r ?_; (repeat (intro b1; refine Q.r ?_))
      exact N.r1 (RV.tmp rfl RV.nil) (Ent.refl _) (by rw [decide_eq_true]; rw [hvs, hRr, hrs])
    · have hRr := hR0 he0
      have hv0 : vs2.length = 0 := by rw [hcnt, hRr]; rfl
      have hlgn := hef he0
      subst hlgn
      refine Q.r ?_; (repeat (intro b1; refine Q.r ?_))
      refine S.ck p1 rfl (UsedH_spec p1 _ _) ?_
      rintro _ _ ⟨rfl, rfl⟩
      refine Q.r ?_; (repeat (intro b1; refine Q.r ?_))
      exact N.r1 (RV.tmp rfl RV.nil) (Ent.refl _) (by rw [Option.map_none, decide_eq_true rfl])
end Go.Proofs.YtkleenllkjodoaaGreatDoor
