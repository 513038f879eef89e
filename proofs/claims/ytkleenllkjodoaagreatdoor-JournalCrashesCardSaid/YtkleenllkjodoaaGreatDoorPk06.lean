/- The journal's unpack: a state out of its frames. journal.pack. journal: lay, Format, the small ones. journal: Format, closed, done, Put, Force. journal: Put, Force. journal: Save. journal: latest. journal: log. journal: Open. The document's Same, Few, Same of lists. What a journal's files say; pure. A journal's disk while the power is there; pure. No condition. -/
import Derived.Test.YtkleenllkjodoaaGreatDoorPk05
set_option linter.unusedVariables false
set_option linter.unusedSimpArgs false
set_option linter.unusedSectionVars false
namespace Go.Proofs.YtkleenllkjodoaaGreatDoor
open Go Go.SX
attribute [local irreducible] swp opsS thenS blockS retS CallsS St Ent YieldS anyS drawS
def okU (n i m : Nat) : Bool := !decide (m = 0) && !(decide (m < 4096) && decide (i + 2 < n))
def unL (l : List (List UInt8)) (m : Nat) : Option (List UInt8) :=
  if frsL l = m ∧ l ≠ [] ∧ (l.getD (l.length - 1) []).length = 0 ∧ ∀ i, i < l.length - 1 → okU l.length i (l.getD i []).length = true then some (l.take (l.length - 1)).flatten else none
theorem unL_no {l : List (List UInt8)} {m : Nat} (h : ¬ (frsL l = m ∧ l ≠ [] ∧ (l.getD (l.length - 1) []).length = 0 ∧ ∀ i, i < l.length - 1 → okU l.length i (l.getD i []).length = true)) : unL l m = none := if_neg h
def unP (p : List UInt8) : Option (List UInt8) := unL (allF p) p.length
theorem map_getD {vs : List YB} {k : Nat} {v : YB} (h : vs[k]? = some v) : (vs.map YB.bs).getD k [] = v.bs := by
  rw [List.getD_eq_getElem?_getD, List.getElem?_map, h]; rfl
def stR (M : Nat → Option Obj) (L0 : List HP) (o : Option (List UInt8)) (r : Value) (L' : List HP) : Prop := ∃ v M', r = .tuple #[YB.val v, .bool o.isSome] ∧ v.bs = o.getD [] ∧ okYM M' v ∧ v.bs.length ≤ v.c ∧ leM M M' ∧ L' = roM M' :: L0
theorem okYs.rdS {M : Nat → Option Obj} {vs : List YB} (h : okYs M vs) {v : YB} (hv : v ∈ vs) {L : List HP} [HasM M L] : okY L v := (h v hv).1.rd
set_option maxHeartbeats 4000000 in
set_option maxRecDepth 100000 in
theorem unpack_spec (a : Option Addr) (c : Nat) (bs : List UInt8) (M : Nat → Option Obj) (L0 : List HP) (h : SlM M a bs.length 1 (bs.map B)) (hT : NibM M) (hc : bs.length ≤ c) (hb : bs.length ≤ 100000000000) :
    CallsS Tryz.prog 45 [.slice a bs.length c] (roM M :: L0) (stR M L0 (unP bs)) := by
  refine CallsS.of_body Tryz.func45 rfl rfl rfl ?_
  refine Q.r ?_; (repeat (intro b1; refine Q.r ?_))
  refine S.cr rfl (SAll_spec a c bs M L0 h hT hc hb) ?_
  rintro _ _ ⟨a1, c1, rfl, vs, M1, hvs, hok, hl1, rfl⟩
  unfold unP
  rw [← hvs] at *
  have hge := frsL_ge (vs.map YB.bs)
  rw [List.length_map] at hge ⊢
  refine opsS_absc a1 (fun M2 hl2 hs hc1 => ?_)
  have hno : ∀ M', leM M1 M' → unL (vs.map YB.bs) bs.length = none → stR M L0 (unL (vs.map YB.bs) bs.length) (.tuple #[.slice none 0 0, .bool false]) (roM M' :: L0) := fun M' hl hq =>
    ⟨⟨none, 0, []⟩, M', by rw [hq]; rfl, by rw [hq]; rfl, SlM.nil, Nat.le_refl _, hl1.trans hl, rfl⟩
  by_cases k1 : frsL (vs.map YB.bs) = bs.length
  · by_cases k2 : vs.length = 0
    · have e0 : vs = [] := List.eq_nil_of_length_eq_zero k2
      refine Q.r ?_; (repeat (intro b1; refine Q.r ?_))
      exact N.r2 (RV.tmp rfl (RV.tmp rfl RV.nil)) (Ent.refl _) (hno M2 hl2 (unL_no (by rintro ⟨_, h, _⟩; exact h (by rw [e0]; rfl))))
    · obtain ⟨z, hz⟩ := mem_get (show vs.length - 1 < vs.length by omega)
      have hgz := map_getD hz
      obtain ⟨b, o, rfl, hr⟩ := RdS.elem (g := YB.cells) (L := roM M2 :: L0) (fun _ => rfl) hs.rd hz rfl
      refine Q.r ?_; (repeat (intro b1; refine Q.r ?_))
      refine S.y (Y.ia (k := vs.length - 1) rfl rfl (by omega) (by omega)) ?_
      refine Q.r ?_; (repeat (intro b1; refine Q.r ?_))
      by_cases k3 : z.bs.length = 0
      · refine Q.r ?_; (repeat (intro b1; refine Q.r ?_))
        refine S.y (Y.slT (h := vs.length - 1) rfl rfl (by omega) (by omega)) ?_
        refine Q.r ?_; (repeat (intro b1; refine Q.r ?_))
        have hok2 := (hok.mono hl2)
        have hcl : ∀ k, (catY (vs.take k)).length ≤ bs.length := fun k => by
          have e1 : ∀ l : List YB, (catY l).length ≤ frsL (l.map YB.bs) := fun l => by
            induction l with
            | nil => exact Nat.le_refl _
            | cons x l ih =>
              show (x.bs ++ catY l).length ≤ 6 + x.bs.length + frsL (l.map YB.bs)
              rw [List.length_append]; omega
          have e2 := e1 vs
          have e3 : (catY (vs.take k)).length ≤ (catY vs).length := by
            conv => rhs; rw [← List.take_append_drop k vs]
            unfold catY
            rw [List.flatMap_append, List.length_append]; omega
          omega
        refine swp_cutB (σ := Option Addr × Nat) (fun s => [(6, .slice s.1 (catY (vs.take (vs.length - 1))).length s.2)]) (fun s => slO 5 1 s.1 (catY (vs.take (vs.length - 1))).length s.2 ((catY (vs.take (vs.length - 1))).map B) :: roM M2 :: L0)
          (fun _ => ∀ i, i < vs.length - 1 → okU vs.length i ((vs.map YB.bs).getD i []).length = true) ?_ ?_
        · refine swp_loop (σ := Nat × Option Addr × Nat) (fun s => [(4, .slice (some ⟨b, o, none⟩) vs.length c1), (37, .slice (some ⟨b, o, none⟩) (vs.length - 1) c1), (38, .int .i64 ((vs.length - 1 : Nat) : Int)), (6, .slice s.2.1 (catY (vs.take s.1)).length s.2.2), (39, .int .i64 s.1)])
            (fun s => slO 5 1 s.2.1 (catY (vs.take s.1)).length s.2.2 ((catY (vs.take s.1)).map B) :: roM M2 :: L0)
            (fun s => s.1 ≤ vs.length - 1 ∧ ∀ i, i < s.1 → okU vs.length i ((vs.map YB.bs).getD i []).length = true) (fun s => vs.length - 1 - s.1) (0, none, 0) ⟨rfl, rfl, rfl, rfl, rfl, trivial⟩ slO_nil ⟨Nat.zero_le _, fun i hi => by omega⟩ ?_
          rintro ⟨k, a6, c6⟩ ⟨hk, hall⟩
          dsimp only at hk hall ⊢
          have hck := hcl k
          by_cases hlt : k < vs.length - 1
          · obtain ⟨v, hv⟩ := mem_get (show k < vs.length by omega)
            have hgv := map_getD hv
            have hmv := List.mem_of_getElem? hv
            have hck1 := hcl (k + 1)
            have hcs : catY (vs.take (k + 1)) = catY (vs.take k) ++ v.bs := by rw [take_snoc hv]; unfold catY; rw [List.flatMap_append]; simp
            rw [hcs, List.length_append] at hck1
            obtain ⟨b', o', he, hr2⟩ := RdS.elem (g := YB.cells) (L := slO 5 1 a6 (catY (vs.take k)).length c6 ((catY (vs.take k)).map B) :: roM M2 :: L0) (fun _ => rfl) hs.rd hv rfl
            cases he
            have hbad : okU vs.length k v.bs.length = false → unL (vs.map YB.bs) bs.length = none := fun hq => unL_no fun h => by
              have := h.2.2.2 k (by rw [List.length_map]; exact hlt)
              rw [List.length_map, hgv, hq] at this
              cases this
            by_cases q1 : v.bs.length = 0
            · refine Q.r ?_; (repeat (intro b1; refine Q.r ?_))
              exact N.r2 (RV.tmp rfl (RV.tmp rfl RV.nil)) (Ent.drop (Ent.refl _)) (hno M2 hl2 (hbad (by unfold okU; rw [decide_eq_true q1]; rfl)))
            by_cases q2 : v.bs.length < 4096
            · by_cases q3 : k + 2 < vs.length
              · refine Q.r ?_; (repeat (intro b1; refine Q.r ?_))
                exact N.r2 (RV.tmp rfl (RV.tmp rfl RV.nil)) (Ent.drop (Ent.refl _)) (hno M2 hl2 (hbad (by unfold okU; rw [decide_eq_true q2, decide_eq_true q3]; simp)))
              · refine Q.r ?_; (repeat (intro b1; refine Q.r ?_))
                refine S.app rfl rfl (SrcS.rd ((okYs.rdS hok2 hmv)) (B_one _)) (by rfl) (by omega) (by omega) (fun a7 c7 => ?_)
                refine Q.r ?_; (repeat (intro b1; refine Q.r ?_))
                refine ⟨(k + 1, a7, c7), ⟨rfl, rfl, rfl, by rw [hcs]; exact congrArg some (by simp), rfl, trivial⟩, by dsimp only; rw [hcs, List.length_append, List.map_append]; exact Ent.refl _, ⟨by dsimp only; omega, fun i hi => ?_⟩, by dsimp only; omega⟩
                by_cases hik : i = k
                · subst hik
                  rw [hgv]; unfold okU; rw [decide_eq_false q1, decide_eq_false q3]; simp
                · exact hall i (by dsimp only at hi; omega)
            · refine Q.r ?_; (repeat (intro b1; refine Q.r ?_))
              refine S.app rfl rfl (SrcS.rd ((okYs.rdS hok2 hmv)) (B_one _)) (by rfl) (by omega) (by omega) (fun a7 c7 => ?_)
              refine Q.r ?_; (repeat (intro b1; refine Q.r ?_))
              refine ⟨(k + 1, a7, c7), ⟨rfl, rfl, rfl, by rw [hcs]; exact congrArg some (by simp), rfl, trivial⟩, by dsimp only; rw [hcs, List.length_append, List.map_append]; exact Ent.refl _, ⟨by dsimp only; omega, fun i hi => ?_⟩, by dsimp only; omega⟩
              by_cases hik : i = k
              · subst hik
                rw [hgv]; unfold okU; rw [decide_eq_false q1, decide_eq_false q2]; simp
              · exact hall i (by dsimp only at hi; omega)
          · have hke : k = vs.length - 1 := by omega
            subst hke
            refine Q.r ?_; (repeat (intro b1; refine Q.r ?_))
            exact ⟨(a6, c6), ⟨rfl, trivial⟩, Ent.refl _, hall⟩
        · rintro ⟨a6, c6⟩ hall
          dsimp only at hall ⊢
          refine swp_ent slO_cap (swp_pure fun hc6 => ?_)
          refine swp_abs a6 (fun M3 hl3 hs3 => ?_)
          refine Q.r ?_; (repeat (intro b1; refine Q.r ?_))
          have hq : unL (vs.map YB.bs) bs.length = some (catY (vs.take (vs.length - 1))) := by
            unfold unL
            rw [if_pos ⟨k1, by intro h; exact k2 (by rw [← List.length_map (f := YB.bs), h]; rfl), by rw [List.length_map, hgz]; exact k3, by rw [List.length_map]; exact hall⟩, List.length_map, ← List.map_take, ← List.flatMap_def]
          exact N.r2 (RV.tmp rfl (RV.tmp rfl RV.nil)) (Ent.refl _) ⟨⟨a6, c6, catY (vs.take (vs.length - 1))⟩, M3, by rw [hq]; rfl, by rw [hq]; rfl, hs3, hc6, hl1.trans (hl2.trans hl3), rfl⟩
      · refine Q.r ?_; (repeat (intro b1; refine Q.r ?_))
        exact N.r2 (RV.tmp rfl (RV.tmp rfl RV.nil)) (Ent.refl _) (hno M2 hl2 (unL_no fun h => k3 (by have := h.2.2.1; rwa [List.length_map, hgz] at this)))
  · refine Q.r ?_; (repeat (intro b1; refine Q.r ?_))
    exact N.r2 (RV.tmp rfl (RV.tmp rfl RV.nil)) (Ent.refl _) (hno M2 hl2 (unL_no fun h => k1 h.1))
end Go.Proofs.YtkleenllkjodoaaGreatDoor
namespace Go.Proofs.YtkleenllkjodoaaGreatDoor
open Go Go.SX
attribute [local irreducible] swp opsS thenS blockS retS CallsS St Ent YieldS anyS drawS
attribute [local irreducible] opsI
set_option maxHeartbeats 1000000 in
theorem Chunk_spec (a : Option Addr) (c m : Nat) (L : List HP) : CallsS Tryz.prog 88 [.slice a m c, .int .i64 4096] L
    (fun v L' => ∃ b2 b3, v = .func (.func 106) #[] [ptrD b2, ptrD b3].toArray ∧ L' = pt b2 (cl [.slice a m c] 31) :: pt b3 (cl [.int .i64 4096] 3) :: L) := by
  refine CallsS.of_body Tryz.func88 rfl rfl rfl ?_
  refine Q.r ?_; (repeat (intro b1; refine Q.r ?_))
  refine S.y (Y.mf rfl rfl) ?_
  refine Q.r ?_; (repeat (intro b1; refine Q.r ?_))
  rename_i b2
  exact N.r1 (RV.tmp rfl RV.nil) (by repeat (first | exact Ent.refl _ | exact Ent.nil | refine Ent.pick ?_ | refine Ent.nilS ?_ | refine Ent.nilM ?_ | refine Ent.drop ?_)) ⟨b2, b1, rfl, rfl⟩
def packF (bs : List UInt8) : List (List UInt8) := (chL bs).map frB ++ [frB []]
structure PX where
  vs : List YB
  a : Option Addr
  c : Nat
  M : Nat → Option Obj
abbrev pkL (rec : Loop) (l D t3 : Nat) (x : PX) : List HP := [pt l (.loop rec), pt D (.deferred (some [])), pt t3 (cl [.slice x.a x.vs.length x.c] 23), slO 31 1 x.a x.vs.length x.c (x.vs.flatMap YB.cells), roM x.M]
def pkOK {M : Nat → Option Obj} (pre : List (CV M)) (x : PX) : Prop := x.vs.map YB.bs = pre.map (fun v => frB v.1.bs) ∧ okYs x.M x.vs ∧ leM M x.M
def pkJ {M : Nat → Option Obj} (rec : Loop) (l D t3 : Nat) (pre : List (CV M)) : HP := exH fun x : PX => allH (pureH (pkOK pre x) :: pkL rec l D t3 x)
theorem pkJ_shut {M : Nat → Option Obj} {rec : Loop} {l D t3 : Nat} {pre : List (CV M)} {x : PX} (h : pkOK pre x) {L : List HP} : Ent (pkL rec l D t3 x ++ L) (pkJ rec l D t3 pre :: L) :=
  Ent.trans (Ent.shut_pure h) (Ent.trans (Ent.shut_all (L := _ :: pkL rec l D t3 x)) (Ent.shut_ex (P := fun x : PX => allH (pureH (pkOK pre x) :: pkL rec l D t3 x)) x))
theorem pkJ_open {M : Nat → Option Obj} {rec : Loop} {l D t3 : Nat} {pre : List (CV M)} {w : World} {L : List HP} (H : St w (pkJ rec l D t3 pre :: L)) : ∃ x, pkOK pre x ∧ St w (pkL rec l D t3 x ++ L) := by
  obtain ⟨x, H⟩ := St.open_ex H
  have H2 := St.ent (Ent.open_all (L := _ :: pkL rec l D t3 x)) H
  obtain ⟨h, H3⟩ := St.open_pure H2
  exact ⟨x, h, H3⟩
structure PkBody (M : Nat → Option Obj) (l t3 : Nat) (l1 l2 : List Oper) : Prop where
  ok1 : okOps 30 l1 = true
  ok2 : okOps 30 l2 = true
  b1 : ∀ (v : CV M) (M1 : Nat → Option Obj), leM M M1 → opsI Tryz.prog 30 (some l) l1 l1 (thenS (fun f L => ∃ (u : YB) (M2 : Nat → Option Obj), f 3 = some (ptrD t3) ∧ f 5 = some u.val ∧ u.bs = frB v.1.bs ∧ okYM M2 u ∧ u.bs.length ≤ u.c ∧ leM M1 M2 ∧ L = [roM M2]) (fun _ _ _ => False)) (updAll [(3, ptrD t3), (4, cvV v)]) [roM M1]
  b2 : ∀ (u : YB) (a : Option Addr) (c k : Nat) (cs : List Value), k < 1048576 → opsI Tryz.prog 30 (some l) l2 l2 (thenS (fun f L => ∃ a' c', L = [pt t3 (cl [.slice a' (k + 1) c'] 23), slO 31 1 a' (k + 1) c' (cs ++ u.cells)]) (fun _ _ _ => False)) (updAll [(3, ptrD t3), (5, u.val)]) [pt t3 (cl [.slice a k c] 23), slO 31 1 a k c cs]
theorem St.rot4 {w : World} {A B C D E : HP} {F : List HP} (H : St w (A :: B :: C :: D :: E :: F)) : St w ([E] ++ (A :: B :: C :: D :: F)) := St.perm (by simpa using (List.perm_append_comm (l₁ := [A, B, C, D]) (l₂ := [E])).append_right F) H
theorem St.rot5 {w : World} {A B C D E : HP} {F : List HP} (H : St w ([E] ++ (A :: B :: C :: D :: F))) : St w ([C, D] ++ (A :: B :: E :: F)) := St.perm (by
  have h1 : List.Perm ([E, A, B] ++ [C, D]) ([C, D] ++ [E, A, B]) := List.perm_append_comm
  have h2 : List.Perm ([C, D] ++ [E, A, B]) ([C, D] ++ [A, B, E]) := (List.perm_append_comm (l₁ := [E]) (l₂ := [A, B])).append_left [C, D]
  simpa using (h1.trans h2).append_right F) H
set_option maxHeartbeats 2000000 in
theorem pkRound {M : Nat → Option Obj} {fn : FuncId} {tm : Array Value} {l D t3 : Nat} {pre : List (CV M)} {x : CV M} {assign body : Code} (htm : tm.size = 30) (h3 : tm[3]? = some (ptrD t3)) (hN : pre.length < 1048576)
    (ha : assign = .region 3 ([⟨some 4, .assign (.tmp 11), 31, "journal.go:46", #[], none⟩] : List Oper).toArray false)
    (hb : ∃ l1 l2 id1 id2, body = .block 1 (.seq (.region id1 (l1 : List Oper).toArray false) (.region id2 (l2 : List Oper).toArray false)) ∧ PkBody M l t3 l1 l2) :
    RoundS Tryz.prog l (cvV x) [pkJ (apRec fn tm #[11] assign body D .ready none) l D t3 pre] [pkJ (apRec fn tm #[11] assign body D .ready none) l D t3 (pre ++ [x])] := by
  intro F w t
  obtain ⟨y, ⟨hy1, hy2, hy3⟩, t⟩ := pkJ_open (L := F) (by simpa using t)
  have hl := St.pt_read t
  obtain ⟨l1, l2, id1, id2, hbd, hB⟩ := hb
  have hyl : y.vs.length < 1048576 := by
    have := congrArg List.length hy1
    rw [List.length_map, List.length_map] at this; omega
  refine ⟨fn, tm.setIfInBounds 11 (cvV x), _, _, by simpa [apRec] using run_yield (P := Tryz.prog) (args := #[cvV x]) hl rfl, roundIn_of_wpIn trivial ?_⟩
  have s0 : Sim 30 { tmps := tm.setIfInBounds 11 (cvV x), defers := [] } (updAll [(3, ptrD t3), (11, cvV x)]) := by
    refine ⟨rfl, by simp [htm], fun i v e => ?_⟩
    simp only [updAll, upd, e0] at e
    by_cases h2 : i = 3
    · subst h2
      cases e
      rw [Array.getD_eq_getD_getElem?, Array.getElem?_setIfInBounds_ne (by omega), h3]; rfl
    · by_cases h7 : i = 11
      · subst h7
        cases e
        simp [htm]
      · rw [beq_ne h2, beq_ne h7] at e; cases e
  have hwa : ∀ Q a w, (Code.region 3 ([⟨some 4, .assign (.tmp 11), 31, "journal.go:46", #[], none⟩] : List Oper).toArray false).wpIn (Go.SX.WF (some l)) 0 Tryz.prog Q a w → assign.wpIn (Go.SX.WF (some l)) 0 Tryz.prog Q a w := fun Q a w h => by rw [ha]; exact h
  refine hwa _ _ _ (wpIn_round (r := some l) (n := 30) (L := pkL (apRec fn tm #[11] assign body D .ready none) l D t3 y) (F := F) (K := fun f L => f 3 = some (ptrD t3) ∧ f 4 = some (cvV x) ∧ L = pkL (apRec fn tm #[11] assign body D .ready none) l D t3 y) ?_ rfl s0 t ?_)
  · refine opsI_one (fun _ h => by cases h) rfl ?_
    repeat (first | (refine GQ.y ?_; refine Q.y ?_) | refine Q.go ?_ | (refine GQ.g ?_; refine Q.gq ?_) | (refine GQ.s ?_; refine Q.st ?_))
    exact opsI_nil (N.tn ⟨rfl, rfl, rfl⟩)
  rintro f L a1 w1 ⟨h2, h5, rfl⟩ s1 t1
  refine ⟨_, run_beginRound (St.pt_read t1) rfl, ?_⟩
  have t2 := St.obj (o' := .loop { (apRec fn tm #[11] assign body D .ready none) with state := .busy }) (L := [pt D (.deferred (some [])), pt t3 (cl [.slice y.a y.vs.length y.c] 23), slO 31 1 y.a y.vs.length y.c (y.vs.flatMap YB.cells), roM y.M] ++ F) t1
  have t3' := St.rot4 t2
  have hwp : ∀ Q a w, (Code.block 1 (.seq (.region id1 l1.toArray false) (.region id2 l2.toArray false))).wpIn (Go.SX.WF (some l)) 0 Tryz.prog Q a w → body.wpIn (Go.SX.WF (some l)) 0 Tryz.prog Q a w := fun Q a w h => by rw [hbd]; exact h
  refine hwp _ _ _ (wpIn_block (wpIn_seq (wpIn_round (r := some l) (n := 30) (F := _) (hB.b1 x y.M hy3) hB.ok1 (s1.weaken (updAll_le ⟨h2, h5, trivial⟩)) t3' ?_)))
  rintro f L a2 w2 ⟨u, M2, hu3, hu5, hub, huo, huc, hle, rfl⟩ s2 t4
  simp only [Exit.then]
  have t5 := St.rot5 t4
  refine wpIn_round (r := some l) (n := 30) (F := _) (hB.b2 u y.a y.c y.vs.length (y.vs.flatMap YB.cells) hyl) hB.ok2 (s2.weaken (updAll_le ⟨hu3, hu5, trivial⟩)) t5 ?_
  rintro f L a3 w3 ⟨a', c', rfl⟩ s3 t6
  have t7 := St.rot2 t6
  refine ⟨_, _, run_endRound none (St.pt_read t7), rfl, ?_⟩
  have t8 := St.obj (o' := .loop (apRec fn tm #[11] assign body D .ready none)) t7
  have e1 : y.vs.length + 1 = (y.vs ++ [u]).length := by simp
  have e2 : y.vs.flatMap YB.cells ++ u.cells = (y.vs ++ [u]).flatMap YB.cells := by simp
  rw [e1, e2] at t8
  have hok : pkOK (pre ++ [x]) (⟨y.vs ++ [u], a', c', M2⟩ : PX) := by
    refine ⟨?_, ?_, hy3.trans hle⟩
    · show (y.vs ++ [u]).map YB.bs = _
      rw [List.map_append, List.map_append, hy1]
      show _ ++ [u.bs] = _ ++ [frB x.1.bs]
      rw [hub]
    · intro v hv
      rcases List.mem_append.1 hv with hv | hv
      · exact (hy2.mono hle) v hv
      · rw [List.mem_singleton.1 hv]; exact ⟨huo, huc⟩
  have t9 := St.ent (pkJ_shut (rec := apRec fn tm #[11] assign body D .ready none) (l := l) (D := D) (t3 := t3) (L := F) hok) t8
  simpa [apRec] using t9
set_option maxHeartbeats 4000000 in
theorem pack_spec (a : Option Addr) (c : Nat) (bs : List UInt8) (M : Nat → Option Obj) (L0 : List HP) (h : SlM M a bs.length 1 (bs.map B)) (hT : NibM M) (hc : bs.length ≤ c) (hl : bs.length ≤ 1048575) :
    CallsS Tryz.prog 78 [.slice a bs.length c] (roM M :: L0) (fun r L' => ∃ a' c', r = .slice a' (packF bs).length c' ∧ rowsR M L0 (packF bs) a' c' L') := by
  refine CallsS.mk' fun F w t => ?_
  refine (callsIn_wide (n := 1)).1 (callsIn_of_wp_marks Tryz.func78 rfl trivial ?_)
  have s0 : Sim 30 { tmps := #[.slice a bs.length c] ++ Array.replicate 29 undef, defers := [] } (argEnv [.slice a bs.length c] 0) := by
    refine ⟨rfl, by simp, fun i v e => ?_⟩
    obtain ⟨_, h2⟩ := argEnv_at _ 0 i v e
    simp only [Nat.sub_zero] at h2
    have hi : i < 1 := (List.getElem?_eq_some_iff.1 h2).1
    match i, hi, h2 with
    | 0, _, h2 => simpa using h2
  refine wpIn_of_swp (n := 30) (F := F) (K := fun f L => f 0 = some (.slice a bs.length c) ∧ L = roM M :: L0) ?_ rfl s0 t ?_
  · refine Q.r ?_; (repeat (intro b1; refine Q.r ?_))
    exact ⟨rfl, rfl⟩
  rintro f L a0 w0 ⟨h0, rfl⟩ s0' t0
  refine wpIn_of_swp (n := 30) (F := F) (K := fun f L => ∃ t3, f 0 = some (.slice a bs.length c) ∧ f 3 = some (ptrD t3) ∧ L = pt t3 (cl [.slice none 0 0] 23) :: roM M :: L0) (f := updAll [(0, .slice a bs.length c)]) ?_ rfl (s0'.weaken (updAll_le ⟨h0, trivial⟩)) t0 ?_
  · refine Q.r ?_; (repeat (intro b1; refine Q.r ?_))
    exact ⟨_, rfl, rfl, rfl⟩
  rintro f L a1 w1 ⟨t3, h1, h3, rfl⟩ s1 t1
  refine wpIn_seq ?_
  refine wpIn_of_swp (n := 30) (F := F) (K := fun f L => ∃ b2 b3, f 3 = some (ptrD t3) ∧ f 10 = some (.func (.func 106) #[] [ptrD b2, ptrD b3].toArray) ∧ L = pt b2 (cl [.slice a bs.length c] 31) :: pt b3 (cl [.int .i64 4096] 3) :: pt t3 (cl [.slice none 0 0] 23) :: roM M :: L0) (f := updAll [(0, .slice a bs.length c), (3, ptrD t3)]) ?_ rfl (s1.weaken (updAll_le ⟨h1, h3, trivial⟩)) t1 ?_
  · refine Q.r ?_; (repeat (intro b1; refine Q.r ?_))
    refine S.cr rfl (Chunk_spec a c bs.length _) ?_
    rintro _ _ ⟨b2, b3, rfl, rfl⟩
    refine Q.r ?_; (repeat (intro b1; refine Q.r ?_))
    exact ⟨b2, b3, rfl, rfl, rfl⟩
  rintro f L a2 w2 ⟨b2, b3, h3, h10, rfl⟩ s2 t2
  obtain ⟨tm, htm⟩ : ∃ tm, tm = a2.tmps := ⟨_, rfl⟩
  have hsz : tm.size = 30 := by rw [htm]; exact s2.size
  have h3' : tm[3]? = some (ptrD t3) := by
    have := s2.at_ 3 _ h3
    rw [← htm, Array.getD_eq_getD_getElem?] at this
    have hlt : 3 < tm.size := by omega
    rw [Array.getElem?_eq_getElem hlt] at this ⊢
    simpa using this
  have hev : a2.eval (.tmp 10) = .func (.func 106) #[] [ptrD b2, ptrD b3].toArray := s2.eval (x := .tmp 10) h10
  refine wpIn_block (wpIn_rangeF hev fun fn => ?_)
  have t3a := St.pt_new (w' := w2.alloc (.deferred (some []))) t2 rfl rfl
  generalize hr0 : ({ state := .ready, pending := none, fn, tmps := a2.tmps, params := #[11], assign := _, body := _, defers := w2.heap.size } : Loop) = rec
  have t4 := St.pt_new (w' := (w2.alloc (.deferred (some []))).alloc (.loop rec)) t3a rfl rfl
  obtain ⟨As, hA⟩ : ∃ A, A = rec.assign := ⟨_, rfl⟩
  obtain ⟨Bs, hB⟩ : ∃ B, B = rec.body := ⟨_, rfl⟩
  have hrec : rec = apRec fn tm #[11] As Bs w2.heap.size .ready none := by rw [hA, hB, htm, ← hr0]; rfl
  have hA' : As = .region 3 ([⟨some 4, .assign (.tmp 11), 31, "journal.go:46", #[], none⟩] : List Oper).toArray false := by rw [hA, ← hr0]
  have hB' : ∃ l1 l2 id1 id2, Bs = .block 1 (.seq (.region id1 (l1 : List Oper).toArray false) (.region id2 (l2 : List Oper).toArray false)) ∧ PkBody M (w2.heap.size + 1) t3 l1 l2 := by
    refine ⟨_, _, 4, 5, by rw [hB, ← hr0], rfl, rfl, fun v M1 hle => ?_, fun u a c k cs hk => ?_⟩
    · refine opsI_one (fun _ h => by cases h) rfl ?_
      refine Q.r ?_; (repeat (intro b1; refine Q.r ?_))
      refine opsI_one (fun _ h => by cases h) rfl ?_
      refine Q.r ?_; (repeat (intro b1; refine Q.r ?_))
      refine opsI_one (fun _ h => by cases h) rfl ?_
      refine S.cr rfl (Frame_spec (some ⟨b1, 0, none⟩) 1 [v.1] M1 _ _ (RdS.row1y rfl) (fun u hu => by rw [List.mem_singleton.1 hu]; exact (v.2.1.mono hle).rd) (hT.mono hle) (Nat.le_refl _) (by simp) (by simp; have := v.2.2.2; omega)) ?_
      rintro _ _ ⟨u, M2, rfl, hub, huo, huc, hl2, rfl⟩
      have hcv : catY [v.1] = v.1.bs := by simp
      rw [hcv, if_neg (by have := v.2.2.2; omega)] at hub
      refine Q.r ?_; (repeat (intro b1; refine Q.r ?_))
      refine opsI_one (fun _ h => by cases h) rfl ?_
      refine Q.r ?_; (repeat (intro b1; refine Q.r ?_))
      refine opsI_one (fun _ h => by cases h) rfl ?_
      refine Q.r ?_; (repeat (intro b1; refine Q.r ?_))
      refine opsI_one (fun _ h => by cases h) rfl ?_
      refine Q.r ?_; (repeat (intro b1; refine Q.r ?_))
      refine opsI_one (fun _ h => by cases h) rfl ?_
      refine Q.r ?_; (repeat (intro b1; refine Q.r ?_))
      refine opsI_one (fun _ h => by cases h) rfl ?_
      refine Q.r ?_; (repeat (intro b1; refine Q.r ?_))
      exact opsI_ent (L' := [roM M2]) (by repeat (first | exact Ent.refl _ | exact Ent.nil | refine Ent.pick ?_ | refine Ent.nilS ?_ | refine Ent.nilM ?_ | refine Ent.drop ?_)) (opsI_nil (N.tn ⟨u, M2, rfl, rfl, hub, huo, huc, hl2, rfl⟩))
    · refine opsI_one (fun _ h => by cases h) rfl ?_
      refine Q.r ?_; (repeat (intro b1; refine Q.r ?_))
      refine opsI_one (fun _ h => by cases h) rfl ?_
      refine Q.r ?_; (repeat (intro b1; refine Q.r ?_))
      refine opsI_one (fun _ h => by cases h) rfl ?_
      refine Q.r ?_; (repeat (intro b1; refine Q.r ?_))
      refine opsI_one (fun _ h => by cases h) rfl ?_
      refine S.app rfl rfl (SrcS.sl RdC.row (by rfl) (by rfl)) (by rfl) (by omega) (by omega) (fun a' c' => ?_)
      refine Q.r ?_; (repeat (intro b1; refine Q.r ?_))
      refine opsI_one (fun _ h => by cases h) rfl ?_
      refine Q.r ?_; (repeat (intro b1; refine Q.r ?_))
      exact opsI_ent (Ent.drop (Ent.refl _)) (opsI_nil (N.tn ⟨a', c', rfl⟩))
  clear hA hB
  subst hrec
  clear hr0
  have hcall := ChunkF_spec M a c bs b2 b3 L0 h hc hl (w2.heap.size + 1) (pkJ (apRec fn tm #[11] As Bs w2.heap.size .ready none) (w2.heap.size + 1) w2.heap.size t3) (fun pre x hp => pkRound hsz h3' hp hA' hB')
  have hsz1 : (w2.alloc (.deferred (some []))).heap.size = w2.heap.size + 1 := by simp
  rw [hsz1] at t4
  have t5 : St ((w2.alloc (.deferred (some []))).alloc (.loop (apRec fn tm #[11] As Bs w2.heap.size .ready none))) (pkL (apRec fn tm #[11] As Bs w2.heap.size .ready none) (w2.heap.size + 1) w2.heap.size t3 ⟨[], none, 0, M⟩ ++ (pt b2 (cl [.slice a bs.length c] 31) :: pt b3 (cl [.int .i64 4096] 3) :: L0 ++ F)) := by
    have t4' := St.ent (Ent.cons (Ent.cons (slO_nil (t := 31) (sz := 1)))) t4
    simp only [List.cons_append, List.nil_append] at t4' ⊢
    generalize L0 ++ F = G at t4' ⊢
    refine St.ent ?_ t4'
    show Ent _ (pt (w2.heap.size + 1) (.loop (apRec fn tm #[11] As Bs w2.heap.size .ready none)) :: pt w2.heap.size (.deferred (some [])) :: pt t3 (cl [.slice none 0 0] 23) :: slO 31 1 none 0 0 [] :: roM M :: pt b2 (cl [.slice a bs.length c] 31) :: pt b3 (cl [.int .i64 4096] 3) :: G)
    repeat (first | exact Ent.refl _ | exact Ent.nil | refine Ent.pick ?_ | refine Ent.nilS ?_ | refine Ent.nilM ?_ | refine Ent.drop ?_)
  have hok0 : pkOK ([] : List (CV M)) (⟨[], none, 0, M⟩ : PX) := ⟨rfl, fun v hv => by simp at hv, leM.refl M⟩
  have t6 := St.ent (pkJ_shut hok0) t5
  refine (CallsS.run hcall t6).mono ?_
  rintro e w3 ⟨v, L', rfl, t7, ks, hks, rfl⟩
  obtain ⟨x, ⟨hx1, hx2, hx3⟩, t8⟩ := pkJ_open t7
  refine ⟨v, _, rfl, run_endLoop (St.pt_read t8) (by simp [apRec]), ?_⟩
  have t9 := (St.obj (o' := .loop { apRec fn tm #[11] As Bs w2.heap.size .ready none with state := .exhausted }) t8).tail
  generalize w3.putObj (w2.heap.size + 1) (.loop { apRec fn tm #[11] As Bs w2.heap.size .ready none with state := .exhausted }) = w4 at t9
  simp only [Exit.inBlock, Exit.then]
  have hd2 : a2.defers = [] := s2.defers
  rw [hd2, List.append_nil]
  have hxl : x.vs.length = (chL bs).length := by
    have h1 := congrArg List.length hx1
    have h2 := congrArg List.length hks
    rw [List.length_map, List.length_map] at h1
    rw [List.length_map] at h2
    omega
  have hxl2 := chL_len bs
  have hpk : (x.vs.map YB.bs) = (chL bs).map frB := by rw [hx1, ← hks, List.map_map]; rfl
  refine wpIn_tail (n := 30) (L := pt t3 (cl [.slice x.a x.vs.length x.c] 23) :: slO 31 1 x.a x.vs.length x.c (x.vs.flatMap YB.cells) :: roM x.M :: L0) (F := pt w2.heap.size (.deferred (some [])) :: F)
    (K := fun f L => ∃ (u : YB) (M2 : Nat → Option Obj), f 3 = some (ptrD t3) ∧ f 7 = some u.val ∧ u.bs = frB [] ∧ okYM M2 u ∧ u.bs.length ≤ u.c ∧ leM x.M M2 ∧ L = pt t3 (cl [.slice x.a x.vs.length x.c] 23) :: slO 31 1 x.a x.vs.length x.c (x.vs.flatMap YB.cells) :: roM M2 :: L0) (f := updAll [(3, ptrD t3)]) _ ?_ rfl (s2.weaken (updAll_le ⟨h3, trivial⟩)) ?_ ?_
  · refine opsI_one (fun _ h => by cases h) rfl ?_
    refine S.cr rfl (Frame_spec none 0 [] x.M _ _ ⟨rfl, .inl rfl⟩ (fun u hu => by simp at hu) (hT.mono hx3) (Nat.le_refl _) (by simp) (by simp)) ?_
    rintro _ _ ⟨u, M2, rfl, hub, huo, huc, hl2, rfl⟩
    have hub' : u.bs = frB [] := by rw [hub]; rfl
    refine Q.r ?_; (repeat (intro b1; refine Q.r ?_))
    refine opsI_one (fun _ h => by cases h) rfl ?_
    refine Q.r ?_; (repeat (intro b1; refine Q.r ?_))
    refine opsI_one (fun _ h => by cases h) rfl ?_
    refine Q.r ?_; (repeat (intro b1; refine Q.r ?_))
    refine opsI_one (fun _ h => by cases h) rfl ?_
    refine Q.r ?_; (repeat (intro b1; refine Q.r ?_))
    refine opsI_one (fun _ h => by cases h) rfl ?_
    refine Q.r ?_; (repeat (intro b1; refine Q.r ?_))
    refine opsI_one (fun _ h => by cases h) rfl ?_
    refine Q.r ?_; (repeat (intro b1; refine Q.r ?_))
    exact opsI_ent (L' := pt t3 (cl [.slice x.a x.vs.length x.c] 23) :: slO 31 1 x.a x.vs.length x.c (x.vs.flatMap YB.cells) :: roM M2 :: L0) (by repeat (first | exact Ent.refl _ | exact Ent.nil | refine Ent.pick ?_ | refine Ent.nilS ?_ | refine Ent.nilM ?_ | refine Ent.drop ?_)) (opsI_nil (N.tn ⟨u, M2, rfl, rfl, hub', huo, huc, hl2, rfl⟩))
  · have hp := (List.perm_middle (a := pt w2.heap.size (.deferred (some []))) (l₁ := pt t3 (cl [.slice x.a x.vs.length x.c] 23) :: slO 31 1 x.a x.vs.length x.c (x.vs.flatMap YB.cells) :: roM x.M :: L0) (l₂ := F)).symm
    exact St.perm (by simpa using hp) t9
  rintro f L a3 w5 ⟨u, M2, h3, h7, hub, huo, huc, hl2, rfl⟩ s3 t10
  refine wpIn_tail (n := 30) (F := pt w2.heap.size (.deferred (some [])) :: F)
    (K := fun f L => ∃ a' c', f 2 = some (.slice a' (x.vs.length + 1) c') ∧ L = slO 31 1 a' (x.vs.length + 1) c' (x.vs.flatMap YB.cells ++ u.cells) :: roM M2 :: L0) (f := updAll [(3, ptrD t3), (7, u.val)]) _ ?_ rfl (s3.weaken (updAll_le ⟨h3, h7, trivial⟩)) t10 ?_
  · refine opsI_one (fun _ h => by cases h) rfl ?_
    refine Q.r ?_; (repeat (intro b1; refine Q.r ?_))
    refine opsI_one (fun _ h => by cases h) rfl ?_
    refine Q.r ?_; (repeat (intro b1; refine Q.r ?_))
    refine opsI_one (fun _ h => by cases h) rfl ?_
    refine Q.r ?_; (repeat (intro b1; refine Q.r ?_))
    refine opsI_one (fun _ h => by cases h) rfl ?_
    refine S.app rfl rfl (SrcS.sl RdC.row (by rfl) (by rfl)) (by rfl) (by omega) (by omega) (fun a' c' => ?_)
    refine Q.r ?_; (repeat (intro b1; refine Q.r ?_))
    refine opsI_one (fun _ h => by cases h) rfl ?_
    refine Q.r ?_; (repeat (intro b1; refine Q.r ?_))
    exact opsI_ent (L' := slO 31 1 a' (x.vs.length + 1) c' (x.vs.flatMap YB.cells ++ u.cells) :: roM M2 :: L0) (by repeat (first | exact Ent.refl _ | exact Ent.nil | refine Ent.pick ?_ | refine Ent.nilS ?_ | refine Ent.nilM ?_ | refine Ent.drop ?_)) (opsI_nil (N.tn ⟨a', c', rfl, rfl⟩))
  rintro f L a4 w6 ⟨a', c', h2, rfl⟩ s4 t11
  have t12 : St w6 (pt w2.heap.size (.deferred (some [])) :: slO 31 1 a' (x.vs.length + 1) c' (x.vs.flatMap YB.cells ++ u.cells) :: roM M2 :: L0 ++ F) := by
    have hp := (List.perm_middle (a := pt w2.heap.size (.deferred (some []))) (l₁ := slO 31 1 a' (x.vs.length + 1) c' (x.vs.flatMap YB.cells ++ u.cells) :: roM M2 :: L0) (l₂ := F))
    exact St.perm (by simpa using hp) t11
  have hD := St.pt_read t12
  have e1 : x.vs.length + 1 = (x.vs ++ [u]).length := by simp
  have e2 : x.vs.flatMap YB.cells ++ u.cells = (x.vs ++ [u]).flatMap YB.cells := by simp
  have e3 : (x.vs ++ [u]).map YB.bs = packF bs := by
    rw [List.map_append, hpk]
    show _ ++ [u.bs] = _
    rw [hub]; rfl
  have e4 : (x.vs ++ [u]).length = (packF bs).length := by rw [← e3, List.length_map]
  have t13 := (St.obj (o' := .deferred none) t12).tail
  rw [e1, e2] at t13
  rw [e1] at h2
  have hg2 : a4.tmps.getD 2 undef = .slice a' (packF bs).length c' := by rw [← e4]; exact s4.at_ 2 _ h2
  refine wpIn_ret ?_
  refine ⟨by simp, .inl ⟨_, _, rfl, run_takeDeferred hD, ?_⟩⟩
  refine ⟨_, results_tmp rfl _ _ _, .slice a' (packF bs).length c', slO 31 1 a' (x.vs ++ [u]).length c' ((x.vs ++ [u]).flatMap YB.cells) :: roM M2 :: L0, ?_, t13, a', c', rfl, x.vs ++ [u], M2, e3, ?_, hx3.trans hl2, rfl⟩
  · rw [hg2]
  · intro v hv
    rcases List.mem_append.1 hv with hv | hv
    · exact (hx2.mono hl2) v hv
    · rw [List.mem_singleton.1 hv]; exact ⟨huo, huc⟩
end Go.Proofs.YtkleenllkjodoaaGreatDoor
namespace Go.Proofs.YtkleenllkjodoaaGreatDoor
open Go Go.SX
attribute [local irreducible] swp opsS thenS blockS retS CallsS St Ent YieldS anyS drawS
abbrev tN : List UInt8 := [116]
def stP (bs : List UInt8) : List UInt8 := (packF bs).flatten
theorem chL_flat (bs : List UInt8) : (chL bs).flatten = bs := by
  induction bs using chL.induct with
  | case1 => rw [chL_nil]; rfl
  | case2 bs h ih => rw [chL_cons h, List.flatten_cons, ih, List.take_append_drop]
theorem chL_len4 (bs : List UInt8) : 4096 * (chL bs).length ≤ bs.length + 4095 := by
  induction bs using chL.induct with
  | case1 => rw [chL_nil]; simp
  | case2 bs h ih =>
    have : bs.length ≠ 0 := fun e => h (List.length_eq_zero_iff.1 e)
    rw [chL_cons h, List.length_cons]
    rw [List.length_drop] at ih
    omega
theorem stP_len (bs : List UInt8) : (stP bs).length ≤ 7 * bs.length + 6 := by
  have h1 := chL_len bs
  have h2 := congrArg List.length (chL_flat bs)
  have h3 : ∀ l : List (List UInt8), (l.map frB).flatten.length = 6 * l.length + l.flatten.length := fun l => by
    induction l with
    | nil => rfl
    | cons x l ih => rw [List.map_cons, List.flatten_cons, List.length_append, ih, frB_len, List.flatten_cons, List.length_append, List.length_cons]; omega
  unfold stP packF
  rw [List.flatten_append, List.length_append, h3]
  have h4 : ([frB []] : List (List UInt8)).flatten.length = 6 := by simp [frB_len]
  omega
theorem catY_map (vs : List YB) : catY vs = (vs.map YB.bs).flatten := by
  induction vs with
  | nil => rfl
  | cons x vs ih => rw [List.map_cons, List.flatten_cons, ← ih]; rfl
def layE (d : DK) (bs : List UInt8) : Int :=
  if wrE d (stP bs) ≠ 0 then wrE d (stP bs) else if fmE (wrS d tN (stP bs)) tN ≠ 0 then fmE (wrS d tN (stP bs)) tN else swE (fmS (wrS d tN (stP bs)) tN)
def layS (d : DK) (bs : List UInt8) (n : Nat) : DK :=
  if wrE d (stP bs) ≠ 0 then wrS d tN (stP bs) else if fmE (wrS d tN (stP bs)) tN ≠ 0 then fmS (wrS d tN (stP bs)) tN else swS (fmS (wrS d tN (stP bs)) tN) tN (nm 99 n)
theorem nm_right {x : UInt8} {n : Nat} (hx : 97 ≤ x.toNat ∧ x.toNat ≤ 122) (hn : n < 100) : rightS (nm x n) := by
  have h := decD_len hn
  refine ⟨by show 1 ≤ (decD n).length + 1; omega, by show (decD n).length + 1 ≤ 8; omega, fun b hb => ?_⟩
  rcases List.mem_cons.1 hb with rfl | hb
  · exact .inl hx
  · refine .inr ?_
    by_cases h10 : n < 10
    · rw [decD_lo h10] at hb
      rw [List.mem_singleton.1 hb, UInt8.toNat_ofNat']
      omega
    · rw [decD_hi (by omega) hn] at hb
      rcases List.mem_cons.1 hb with rfl | hb
      · rw [UInt8.toNat_ofNat']; omega
      · rw [List.mem_singleton.1 hb, UInt8.toNat_ofNat']; omega
theorem has_put {d : DK} {fs : List FE} {n m : List UInt8} {v : List UInt8 × Nat} (hk : keysOK fs) : lkL (putL fs n v) m ≠ none ↔ m = n ∨ lkL fs m ≠ none := by
  rw [lkL_put hk]
  split
  · next h => simp [h]
  · next h => simp [h]
theorem lay_has {d : DK} {bs : List UInt8} (hk : keysOK d.fs) (h1 : wrE d (stP bs) = 0) : hasD (fmS (wrS d tN (stP bs)) tN) tN := by
  have e1 : wrS d tN (stP bs) = wrD (spendD d) tN (stP bs) := by unfold wrS; rw [if_pos h1]
  have h2 : hasD (wrS d tN (stP bs)) tN := by
    rw [e1]; exact (has_put (d := d) (by rw [spendD_fs]; exact hk)).2 (.inl rfl)
  unfold fmS
  split
  · show lkL (putL _ _ _) _ ≠ none
    exact (has_put (d := d) (by rw [spendD_fs, e1]; exact putL_ok (by rw [spendD_fs]; exact hk) _ _)).2 (.inl rfl)
  · rw [hasD_spend]; exact h2
theorem lay_no {d : DK} {bs : List UInt8} {m : List UInt8} (hk : keysOK d.fs) (hm : m ≠ tN) (h : ¬ hasD d m) : ¬ hasD (fmS (wrS d tN (stP bs)) tN) m := by
  have h1 : ¬ hasD (wrS d tN (stP bs)) m := by
    unfold wrS
    split
    · intro h2
      rcases (has_put (d := d) (by rw [spendD_fs]; exact hk)).1 h2 with h3 | h3
      · exact hm h3
      · rw [spendD_fs] at h3; exact h h3
    · rw [hasD_spend]; exact h
  have hk1 : keysOK (wrS d tN (stP bs)).fs := by
    unfold wrS
    split
    · exact putL_ok (by rw [spendD_fs]; exact hk) _ _
    · rw [spendD_fs]; exact hk
  unfold fmS
  split
  · intro h2
    rcases (has_put (d := d) (by rw [spendD_fs]; exact hk1)).1 h2 with h3 | h3
    · exact hm h3
    · rw [spendD_fs] at h3; exact h1 h3
  · rw [hasD_spend]; exact h1
set_option maxHeartbeats 2000000 in
theorem lay_spec (p : Nat) (d : DK) (a : Option Addr) (c n : Nat) (bs : List UInt8) (M : Nat → Option Obj) (L : List HP) (h : SlM M a bs.length 1 (bs.map B)) (hT : NibM M) (hc : bs.length ≤ c) (hl : bs.length ≤ 1048575)
    (hk : keysOK d.fs) (hfew : d.fs.length ≤ 15) (hn : n < 100) (hno : ¬ hasD d (nm 99 n)) :
    CallsS Tryz.prog 57 [ptrD p, .slice a bs.length c, .int .i64 n] (diskH p d :: roM M :: L) (fun r L' => r = .int .i64 (layE d bs) ∧ ∃ M', leM M M' ∧ L' = diskH p (layS d bs n) :: roM M' :: L) := by
  refine CallsS.of_body Tryz.func57 rfl rfl rfl ?_
  refine Q.r ?_; (repeat (intro b1; refine Q.r ?_))
  refine opsS_ent (L' := roM M :: diskH p d :: L) (by repeat (first | exact Ent.refl _ | exact Ent.nil | refine Ent.pick ?_ | refine Ent.nilS ?_ | refine Ent.nilM ?_ | refine Ent.drop ?_)) ?_
  refine S.cr rfl (pack_spec a c bs M _ h hT hc hl) ?_
  rintro _ _ ⟨a1, c1, rfl, vs, M1, hvs, hok, hl1, rfl⟩
  have hcat : catY vs = stP bs := by rw [catY_map, hvs]; rfl
  have hvl : (packF bs).length = vs.length := by rw [← hvs, List.length_map]
  rw [hvl]
  refine opsS_absc a1 (fun M2 hl2 hs hc1 => ?_)
  have hcl : (catY vs).length ≤ 1000000000 := by rw [hcat]; have := stP_len bs; omega
  have hvs2 : vs.length ≤ 1000000 := by
    rw [← hvl]; unfold packF
    rw [List.length_append, List.length_map]
    have h4 := chL_len4 bs
    show _ + 1 ≤ 1000000
    omega
  refine S.ckm p rfl (Write_spec p d tN a1 c1 vs M2 L ⟨by decide, by decide, by decide⟩ hfew hs (fun v hv => (hok v hv).1.mono hl2) hc1 hvs2 hcl) ?_
  rintro _ _ ⟨rfl, M3, hl3, rfl⟩
  rw [hcat]
  by_cases e1 : wrE d (stP bs) = 0
  · rw [e1]
    refine Q.r ?_; (repeat (intro b1; refine Q.r ?_))
    refine opsS_ent (L' := pt b1 (cl [str tN] 9) :: diskH p (wrS d tN (stP bs)) :: roM M3 :: L) (Ent.refl _) ?_
    refine opsS_absR b1 (t := 9) (l := [str tN]) (m := 1) (cs := [str tN]) (Nat.le_refl _) rfl (fun M4 hl4 hs4 => ?_)
    refine S.ckm p rfl (Firm_spec p _ tN (some ⟨b1, 0, none⟩) 1 M4 L hs4) ?_
    rintro _ _ ⟨rfl, rfl⟩
    by_cases e2 : fmE (wrS d tN (stP bs)) tN = 0
    · rw [e2]
      refine Q.r ?_; (repeat (intro b1; refine Q.r ?_))
      refine S.cr rfl (name_spec 99 n hn _) ?_
      rintro _ _ ⟨rfl, rfl⟩
      refine Q.r ?_; (repeat (intro b1; refine Q.r ?_))
      refine S.ck p rfl (Swap_spec p _ tN (nm 99 n) _ (lay_has hk e1) (lay_no hk (by simp [nm]) hno) (nm_right (by decide) hn)) ?_
      rintro _ _ ⟨rfl, rfl⟩
      refine Q.r ?_; (repeat (intro b1; refine Q.r ?_))
      refine N.r1 (RV.tmp rfl RV.nil) (Ent.refl _) ⟨?_, M4, hl1.trans (hl2.trans (hl3.trans hl4)), ?_⟩
      · unfold layE; rw [if_neg (fun h => h e1), if_neg (fun h => h e2)]
      · unfold layS; rw [if_neg (fun h => h e1), if_neg (fun h => h e2)]
    · refine Q.r ?_; (repeat (intro b1; refine Q.r ?_))
      refine N.r1 (RV.tmp rfl RV.nil) (Ent.refl _) ⟨?_, M4, hl1.trans (hl2.trans (hl3.trans hl4)), ?_⟩
      · unfold layE; rw [if_neg (fun h => h e1), if_pos e2]
      · unfold layS; rw [if_neg (fun h => h e1), if_pos e2]
  · refine Q.r ?_; (repeat (intro b1; refine Q.r ?_))
    refine N.r1 (RV.tmp rfl RV.nil) (Ent.refl _) ⟨?_, M3, hl1.trans (hl2.trans hl3), ?_⟩
    · unfold layE; rw [if_pos e1]
    · unfold layS; rw [if_pos e1]
end Go.Proofs.YtkleenllkjodoaaGreatDoor
namespace Go.Proofs.YtkleenllkjodoaaGreatDoor
open Go Go.SX
attribute [local irreducible] swp opsS thenS blockS retS CallsS St Ent YieldS anyS drawS
abbrev nilP : Value := .pointer none
abbrev jnP (q p n k : Nat) (br : Bool) : HP := pt q (cl [ptrD p, .int .i64 n, .int .i64 k, .bool br] 87)
def foE (d : DK) (bs : List UInt8) : Int := if d.fs.length = 0 then layE d bs else 7
def foS (d : DK) (bs : List UInt8) : DK := if d.fs.length = 0 then layS d bs 0 else d
set_option maxHeartbeats 1000000 in
theorem Format_spec (p : Nat) (d : DK) (a : Option Addr) (c : Nat) (bs : List UInt8) (M : Nat → Option Obj) (L : List HP) (h : SlM M a bs.length 1 (bs.map B)) (hT : NibM M) (hc : bs.length ≤ c) (hl : bs.length ≤ 1048575) :
    CallsS Tryz.prog 38 [ptrD p, .slice a bs.length c] (diskH p d :: roM M :: L) (fun r L' => r = .int .i64 (foE d bs) ∧ ∃ M', leM M M' ∧ L' = diskH p (foS d bs) :: roM M' :: L) := by
  refine CallsS.of_body Tryz.func38 rfl rfl rfl ?_
  refine Q.r ?_; (repeat (intro b1; refine Q.r ?_))
  refine S.ckm p rfl (Names_spec p d M _) ?_
  rintro _ _ ⟨a1, c1, M1, rfl, hs, hc1, hl1, rfl⟩
  by_cases h0 : d.fs.length = 0
  · have hnil : d.fs = [] := List.eq_nil_of_length_eq_zero h0
    refine Q.r ?_; (repeat (intro b1; refine Q.r ?_))
    refine S.ckm p rfl (lay_spec p d a c 0 bs M1 L (h.mono hl1) (hT.mono hl1) hc hl (by rw [hnil]; exact List.nodup_nil) (by omega) (by omega) (by unfold hasD; rw [hnil]; exact fun h => h rfl)) ?_
    rintro _ _ ⟨rfl, M2, hl2, rfl⟩
    refine Q.r ?_; (repeat (intro b1; refine Q.r ?_))
    exact N.r1 (RV.tmp rfl RV.nil) (Ent.refl _) ⟨by unfold foE; rw [if_pos h0], M2, hl1.trans hl2, by unfold foS; rw [if_pos h0]⟩
  · have h1 : (0 : Int) < d.fs.length := by omega
    refine Q.r ?_; (repeat (intro b1; refine Q.r ?_))
    exact N.r1 (RV.tmp rfl RV.nil) (Ent.refl _) ⟨by unfold foE; rw [if_neg h0], M1, hl1, by unfold foS; rw [if_neg h0]⟩
theorem closed_spec (q p n k : Nat) (br : Bool) (L : List HP) : CallsS Tryz.prog 39 [ptrD q] (jnP q p n k br :: L) (fun r L' => r = .int .i64 (if br then 10 else 0) ∧ L' = jnP q p n k br :: L) := by
  refine CallsS.of_body Tryz.func39 rfl rfl rfl ?_
  cases br
  · refine Q.r ?_; (repeat (intro b1; refine Q.r ?_))
    exact N.r1 (RV.tmp rfl RV.nil) (Ent.refl _) ⟨rfl, rfl⟩
  · refine Q.r ?_; (repeat (intro b1; refine Q.r ?_))
    exact N.r1 (RV.tmp rfl RV.nil) (Ent.refl _) ⟨rfl, rfl⟩
theorem done_spec (q p n k : Nat) (br : Bool) (e : Int) (L : List HP) : CallsS Tryz.prog 42 [ptrD q, .int .i64 e] (jnP q p n k br :: L) (fun r L' => r = .int .i64 e ∧ L' = jnP q p n k (br || decide (e = 9)) :: L) := by
  refine CallsS.of_body Tryz.func42 rfl rfl rfl ?_
  cases br
  · by_cases h : e = 9
    · subst h
      refine Q.r ?_; (repeat (intro b1; refine Q.r ?_))
      exact N.r1 (RV.tmp rfl RV.nil) (Ent.refl _) ⟨rfl, rfl⟩
    · have h2 : decide (e = 9) = false := decide_eq_false h
      refine Q.r ?_; (repeat (intro b1; refine Q.r ?_))
      exact N.r1 (RV.tmp rfl RV.nil) (Ent.refl _) ⟨rfl, by rw [h2]; rfl⟩
  · refine Q.r ?_; (repeat (intro b1; refine Q.r ?_))
    exact N.r1 (RV.tmp rfl RV.nil) (Ent.refl _) ⟨rfl, rfl⟩
end Go.Proofs.YtkleenllkjodoaaGreatDoor
namespace Go.Proofs.YtkleenllkjodoaaGreatDoor
open Go Go.SX
attribute [local irreducible] swp opsS thenS blockS retS CallsS St Ent YieldS anyS drawS
theorem Broken_spec (q p n k : Nat) (br : Bool) (L : List HP) : CallsS Tryz.prog 34 [ptrD q] (jnP q p n k br :: L) (fun r L' => r = .bool br ∧ L' = jnP q p n k br :: L) := by
  refine CallsS.of_body Tryz.func34 rfl rfl rfl ?_
  refine Q.r ?_; (repeat (intro b1; refine Q.r ?_))
  exact N.r1 (RV.tmp rfl RV.nil) (Ent.refl _) ⟨rfl, rfl⟩
structure JZ where
  d : DK
  n : Nat
  k : Nat
  br : Bool
abbrev jsH (p q : Nat) (s : JZ) (M : Nat → Option Obj) (L : List HP) : List HP := jnP q p s.n s.k s.br :: diskH p s.d :: roM M :: L
def foceE (s : JZ) : Int := if s.br then 10 else if s.k = 0 then 0 else fmE s.d (nm 108 s.n)
def foceS (s : JZ) : JZ := if s.br then s else if s.k = 0 then s else { s with d := fmS s.d (nm 108 s.n), br := s.br || decide (fmE s.d (nm 108 s.n) = 9) }
set_option maxHeartbeats 1000000 in
theorem Force_spec (p q : Nat) (s : JZ) (M : Nat → Option Obj) (L : List HP) (hn : s.n < 100) :
    CallsS Tryz.prog 29 [ptrD q] (jsH p q s M L) (fun r L' => r = .int .i64 (foceE s) ∧ ∃ M', leM M M' ∧ L' = jsH p q (foceS s) M' L) := by
  refine CallsS.of_body Tryz.func29 rfl rfl rfl ?_
  refine Q.r ?_; (repeat (intro b1; refine Q.r ?_))
  refine S.cr rfl (closed_spec q p s.n s.k s.br _) ?_
  rintro _ _ ⟨rfl, rfl⟩
  obtain ⟨d, n, k, br⟩ := s
  dsimp only at hn ⊢
  cases br
  · by_cases hk : k = 0
    · have hk' : (k : Int) = 0 := by omega
      refine Q.r ?_; (repeat (intro b1; refine Q.r ?_))
      exact N.r1 (RV.tmp rfl RV.nil) (Ent.refl _) ⟨by unfold foceE; dsimp only; rw [if_neg (by decide), if_pos hk], M, leM.refl M, by unfold foceS; dsimp only; rw [if_neg (by decide), if_pos hk]⟩
    · have hk' : ¬ (k : Int) = 0 := by omega
      refine Q.r ?_; (repeat (intro b1; refine Q.r ?_))
      refine Q.dgo [true, false, false] [9, 10, 11, 12] [12] [0, 1, 2, 3, 4, 5, 6, 7, 8, 9, 10, 11, 12, 13] ?_
      repeat (first | refine D.endA ?_ | refine Q.dp rfl rfl rfl ?_ | refine Q.dy rfl rfl rfl ?_ | refine D.end_ ?_ | refine Q.endH ?_ | (refine D.e rfl rfl rfl ?_; (first | refine S.gskip1 rfl ?_ | refine S.gskip rfl ?_ | refine S.y (Y.gskipU rfl) ?_); refine opsS_nil ?_; refine N.tn ?_))
      refine D.e rfl rfl rfl ?_
      refine S.cr rfl (name_spec 108 n hn _) ?_
      rintro _ _ ⟨rfl, rfl⟩
      refine Q.r ?_; (repeat (intro b1; refine Q.r ?_))
      repeat (first | refine D.endA ?_ | refine Q.dp rfl rfl rfl ?_ | refine Q.dy rfl rfl rfl ?_ | refine D.end_ ?_ | refine Q.endH ?_ | (refine D.e rfl rfl rfl ?_; (first | refine S.gskip1 rfl ?_ | refine S.gskip rfl ?_ | refine S.y (Y.gskipU rfl) ?_); refine opsS_nil ?_; refine N.tn ?_))
      refine D.e rfl rfl rfl ?_
      refine Q.r ?_; (repeat (intro b1; refine Q.r ?_))
      repeat (first | refine D.endA ?_ | refine Q.dp rfl rfl rfl ?_ | refine Q.dy rfl rfl rfl ?_ | refine D.end_ ?_ | refine Q.endH ?_ | (refine D.e rfl rfl rfl ?_; (first | refine S.gskip1 rfl ?_ | refine S.gskip rfl ?_ | refine S.y (Y.gskipU rfl) ?_); refine opsS_nil ?_; refine N.tn ?_))
      refine D.e rfl rfl rfl ?_
      refine opsS_absR b1 (t := 9) (l := [str (nm 108 n)]) (m := 1) (cs := [str (nm 108 n)]) (Nat.le_refl _) rfl (fun M1 hl1 hs1 => ?_)
      refine S.ckm p rfl (Firm_spec p d (nm 108 n) (some ⟨b1, 0, none⟩) 1 M1 _ hs1) ?_
      rintro _ _ ⟨rfl, rfl⟩
      refine Q.r ?_; (repeat (intro b1; refine Q.r ?_))
      repeat (first | refine D.endA ?_ | refine Q.dp rfl rfl rfl ?_ | refine Q.dy rfl rfl rfl ?_ | refine D.end_ ?_ | refine Q.endH ?_ | (refine D.e rfl rfl rfl ?_; (first | refine S.gskip1 rfl ?_ | refine S.gskip rfl ?_ | refine S.y (Y.gskipU rfl) ?_); refine opsS_nil ?_; refine N.tn ?_))
      refine Q.dc rfl rfl rfl rfl ?_
      refine opsS_ent (L' := jnP q p n k false :: diskH p (fmS d (nm 108 n)) :: roM M1 :: L) (by repeat (first | exact Ent.refl _ | exact Ent.nil | refine Ent.pick ?_ | refine Ent.nilS ?_ | refine Ent.nilM ?_ | refine Ent.drop ?_)) ?_
      refine S.cr rfl (done_spec q p n k false _ _) ?_
      rintro _ _ ⟨rfl, rfl⟩
      refine Q.r ?_; (repeat (intro b1; refine Q.r ?_))
      repeat (first | refine D.endA ?_ | refine Q.dp rfl rfl rfl ?_ | refine Q.dy rfl rfl rfl ?_ | refine D.end_ ?_ | refine Q.endH ?_ | (refine D.e rfl rfl rfl ?_; (first | refine S.gskip1 rfl ?_ | refine S.gskip rfl ?_ | refine S.y (Y.gskipU rfl) ?_); refine opsS_nil ?_; refine N.tn ?_))
      refine Q.r ?_; (repeat (intro b1; refine Q.r ?_))
      exact N.r1 (RV.tmp rfl RV.nil) (Ent.refl _) ⟨by unfold foceE; dsimp only; rw [if_neg (by decide), if_neg hk], M1, hl1, by unfold foceS; dsimp only; rw [if_neg (by decide), if_neg hk]⟩
  · refine Q.r ?_; (repeat (intro b1; refine Q.r ?_))
    exact N.r1 (RV.tmp rfl RV.nil) (Ent.refl _) ⟨rfl, M, leM.refl M, rfl⟩
def cdL (rs : List (List UInt8)) : Int := if ∃ r ∈ rs, 4096 < r.length then 3 else 0
theorem cdL_nil : cdL [] = 0 := if_neg (by simp)
theorem cdL_snoc (rs : List (List UInt8)) (r : List UInt8) : cdL (rs ++ [r]) = if 4096 < r.length then 3 else cdL rs := by
  unfold cdL
  by_cases h : 4096 < r.length
  · rw [if_pos h, if_pos ⟨r, by simp, h⟩]
  · rw [if_neg h]
    by_cases h2 : ∃ r ∈ rs, 4096 < r.length
    · obtain ⟨x, hx, hx2⟩ := h2
      rw [if_pos ⟨x, by simp [hx], hx2⟩, if_pos ⟨x, hx, hx2⟩]
    · rw [if_neg h2, if_neg]
      rintro ⟨x, hx, hx2⟩
      rcases List.mem_append.1 hx with hx | hx
      · exact h2 ⟨x, hx, hx2⟩
      · rw [List.mem_singleton.1 hx] at hx2; exact h hx2
def ptC (rs : List (List UInt8)) : Int := if ∃ r ∈ rs, r.length = 0 then 2 else cdL rs
def frs (rs : List (List UInt8)) : List UInt8 := (rs.map frB).flatten
def ptE (s : JZ) (rs : List (List UInt8)) : Int := if s.br then 10 else if ptC rs ≠ 0 then ptC rs else if rs = [] then 0 else wrE s.d (frs rs)
def ptS (s : JZ) (rs : List (List UInt8)) : JZ :=
  if s.br then s else if ptC rs ≠ 0 then s else if rs = [] then s else { s with d := wrS s.d (nm 108 s.n) (frs rs), k := if wrE s.d (frs rs) = 0 then s.k + rs.length else s.k, br := s.br || decide (wrE s.d (frs rs) = 9) }
def frC (b : List UInt8) : List UInt8 := if 4096 < b.length then [] else frB b
theorem catY_le {K : Nat} : ∀ us : List YB, (∀ v ∈ us, v.bs.length ≤ K) → (catY us).length ≤ us.length * K
  | [], _ => by simp
  | u :: us, h => by
    have h1 := catY_le us (fun v hv => h v (by simp [hv]))
    have h2 := h u (by simp)
    show (u.bs ++ catY us).length ≤ (us.length + 1) * K
    rw [List.length_append, Nat.succ_mul]; omega
structure PS where
  k : Nat
  us : List YB
  a : Option Addr
  c : Nat
  M : Nat → Option Obj
set_option maxHeartbeats 4000000 in
theorem JPut_spec (p q : Nat) (s : JZ) (a : Option Addr) (c : Nat) (vs : List YB) (M : Nat → Option Obj) (L : List HP) (hn : s.n < 100) (hk : s.k ≤ 1000000) (hfew : s.d.fs.length ≤ 15) (h : SlM M a vs.length 1 (vs.flatMap YB.cells)) (hok : okYs M vs) (hT : NibM M) (hvl : vs.length ≤ 1000) (hb : ∀ v ∈ vs, v.bs.length ≤ 100000) :
    CallsS Tryz.prog 13 [ptrD q, .slice a vs.length c] (jsH p q s M L) (fun r L' => r = .int .i64 (ptE s (vs.map YB.bs)) ∧ ∃ M', leM M M' ∧ L' = jsH p q (ptS s (vs.map YB.bs)) M' L) := by
  refine CallsS.of_body Tryz.func13 rfl rfl rfl ?_
  refine Q.r ?_; (repeat (intro b1; refine Q.r ?_))
  refine S.cr rfl (closed_spec q p s.n s.k s.br _) ?_
  rintro _ _ ⟨rfl, rfl⟩
  obtain ⟨d, n, kk, br⟩ := s
  dsimp only at hn hk hfew ⊢
  cases br
  · refine Q.r ?_; (repeat (intro b1; refine Q.r ?_))
    refine swp_cutB (σ := PS) (fun s => [(0, ptrD q), (1, .slice a vs.length c), (6, .int .i64 (cdL (vs.map YB.bs))), (7, .slice s.a s.us.length s.c)])
      (fun s => slO 31 1 s.a s.us.length s.c (s.us.flatMap YB.cells) :: jnP q p n kk false :: diskH p d :: roM s.M :: L) (fun s => (∀ v ∈ vs, v.bs.length ≠ 0) ∧ s.us.map YB.bs = vs.map (fun v => frC v.bs) ∧ okYs s.M s.us ∧ leM M s.M) ?_ ?_
    · refine swp_loop (σ := PS) (fun s => [(0, ptrD q), (1, .slice a vs.length c), (18, .slice a vs.length c), (19, .int .i64 vs.length), (20, .int .i64 s.k), (6, .int .i64 (cdL ((vs.take s.k).map YB.bs))), (7, .slice s.a s.us.length s.c)])
        (fun s => slO 31 1 s.a s.us.length s.c (s.us.flatMap YB.cells) :: jnP q p n kk false :: diskH p d :: roM s.M :: L) (fun s => s.k ≤ vs.length ∧ (∀ v ∈ vs.take s.k, v.bs.length ≠ 0) ∧ s.us.map YB.bs = (vs.take s.k).map (fun v => frC v.bs) ∧ okYs s.M s.us ∧ leM M s.M) (fun s => vs.length - s.k) ⟨0, [], none, 0, M⟩ ⟨rfl, rfl, rfl, rfl, rfl, by rw [List.take_zero, List.map_nil, cdL_nil]; rfl, rfl, trivial⟩ slO_nil ⟨by show 0 ≤ _; omega, by simp, by simp, fun v hv => by simp at hv, leM.refl M⟩ ?_
      rintro ⟨k, us, a1, c1, M1⟩ ⟨hkl, hall, hus, huo, hl1⟩
      dsimp only at hkl hall hus huo hl1 ⊢
      by_cases hlt : k < vs.length
      · obtain ⟨v, hv⟩ := mem_get hlt
        obtain ⟨b, o, rfl, hr⟩ := SlM.cm (g := YB.cells) (fun _ => rfl) (h.mono hl1) hv rfl
        refine Q.r ?_; (repeat (intro b1; refine Q.r ?_))
        have hvm := List.mem_of_getElem? hv
        have hvo := ((hok v hvm).1.mono hl1)
        have hvb := hb v hvm
        have hcv : catY [v] = v.bs := by simp
        refine S.cr rfl (Frame_spec (some ⟨b1, 0, none⟩) 1 [v] M1 _ _ (RdS.row1y rfl) (fun u hu => by rw [List.mem_singleton.1 hu]; exact hvo.rd) (hT.mono hl1) (Nat.le_refl _) (by simp) (by rw [hcv]; omega)) ?_
        rintro _ _ ⟨u, M2, rfl, hub, huo2, huc, hl2, rfl⟩
        rw [hcv] at hub ⊢
        by_cases hv0 : v.bs.length = 0
        · refine Q.r ?_; (repeat (intro b1; refine Q.r ?_))
          have hptC : ptC (vs.map YB.bs) = 2 := by unfold ptC; rw [if_pos ⟨v.bs, List.mem_map_of_mem hvm, hv0⟩]
          refine N.r1 (RV.tmp rfl RV.nil) (L' := jsH p q ⟨d, n, kk, false⟩ M2 L) (by repeat (first | exact Ent.refl _ | exact Ent.nil | refine Ent.pick ?_ | refine Ent.nilS ?_ | refine Ent.nilM ?_ | refine Ent.drop ?_)) ⟨?_, M2, hl1.trans hl2, ?_⟩
          · unfold ptE; dsimp only; rw [if_neg (by decide), hptC]; rfl
          · unfold ptS; dsimp only; rw [if_neg (by decide), hptC]; rfl
        · have hcs : cdL ((vs.take (k + 1)).map YB.bs) = if 4096 < v.bs.length then 3 else cdL ((vs.take k).map YB.bs) := by
            rw [take_snoc hv, List.map_append]; exact cdL_snoc _ _
          have hall2 : ∀ w ∈ vs.take (k + 1), w.bs.length ≠ 0 := fun w hw => by
            rw [take_snoc hv] at hw
            rcases List.mem_append.1 hw with hw | hw
            · exact hall w hw
            · rw [List.mem_singleton.1 hw]; exact hv0
          have hus2 : (us ++ [u]).map YB.bs = (vs.take (k + 1)).map (fun v => frC v.bs) := by
            rw [take_snoc hv, List.map_append, List.map_append, hus]
            show _ ++ [u.bs] = _
            rw [hub]; rfl
          have huo3 : okYs M2 (us ++ [u]) := fun w hw => by
            rcases List.mem_append.1 hw with hw | hw
            · exact (huo.mono hl2) w hw
            · rw [List.mem_singleton.1 hw]; exact ⟨huo2, huc⟩
          have husl : us.length = k := by
            have := congrArg List.length hus
            rw [List.length_map, List.length_map, List.length_take] at this; omega
          by_cases hvl4 : 4096 < v.bs.length
          · rw [if_pos hvl4] at hcs ⊢
            refine Q.r ?_; (repeat (intro b1; refine Q.r ?_))
            refine S.app rfl rfl (SrcS.sl RdC.row (by rfl) (by rfl)) (by rfl) (by omega) (by omega) (fun a7 c7 => ?_)
            refine Q.r ?_; (repeat (intro b1; refine Q.r ?_))
            refine ⟨⟨k + 1, us ++ [u], a7, c7, M2⟩, ⟨rfl, rfl, rfl, rfl, rfl, congrArg some (congrArg (Value.int .i64) hcs.symm), congrArg some (by simp), trivial⟩, ?_, ⟨by show k + 1 ≤ vs.length; omega, ?_, ?_, ?_, hl1.trans hl2⟩, by show vs.length - (k + 1) < vs.length - k; omega⟩
            · dsimp only
              rw [len_snoc, flat_snoc]
              repeat (first | exact Ent.refl _ | exact Ent.nil | refine Ent.pick ?_ | refine Ent.nilS ?_ | refine Ent.nilM ?_ | refine Ent.drop ?_)
            · exact hall2
            · exact hus2
            · exact huo3
          · rw [if_neg hvl4] at hcs ⊢
            refine Q.r ?_; (repeat (intro b1; refine Q.r ?_))
            refine S.app rfl rfl (SrcS.sl RdC.row (by rfl) (by rfl)) (by rfl) (by omega) (by omega) (fun a7 c7 => ?_)
            refine Q.r ?_; (repeat (intro b1; refine Q.r ?_))
            refine ⟨⟨k + 1, us ++ [u], a7, c7, M2⟩, ⟨rfl, rfl, rfl, rfl, rfl, congrArg some (congrArg (Value.int .i64) hcs.symm), congrArg some (by simp), trivial⟩, ?_, ⟨by show k + 1 ≤ vs.length; omega, ?_, ?_, ?_, hl1.trans hl2⟩, by show vs.length - (k + 1) < vs.length - k; omega⟩
            · dsimp only
              rw [len_snoc, flat_snoc]
              repeat (first | exact Ent.refl _ | exact Ent.nil | refine Ent.pick ?_ | refine Ent.nilS ?_ | refine Ent.nilM ?_ | refine Ent.drop ?_)
            · exact hall2
            · exact hus2
            · exact huo3
      · have hke : k = vs.length := by omega
        subst hke
        rw [List.take_length] at *
        refine Q.r ?_; (repeat (intro b1; refine Q.r ?_))
        exact ⟨⟨vs.length, us, a1, c1, M1⟩, ⟨rfl, rfl, rfl, rfl, trivial⟩, Ent.refl _, hall, hus, huo, hl1⟩
    · rintro ⟨k, us, a1, c1, M1⟩ ⟨hall, hus, huo, hl1⟩
      dsimp only at hall hus huo hl1 ⊢
      have hptC : ptC (vs.map YB.bs) = cdL (vs.map YB.bs) := by
        unfold ptC
        rw [if_neg]
        rintro ⟨r, hr, h0⟩
        obtain ⟨v, hv, rfl⟩ := List.mem_map.1 hr
        exact hall v hv h0
      by_cases hcd : cdL (vs.map YB.bs) = 0
      · rw [hcd]
        by_cases hv0 : vs.length = 0
        · have hnil : vs = [] := List.eq_nil_of_length_eq_zero hv0
          have hv0' : (vs.length : Int) = 0 := by omega
          refine Q.r ?_; (repeat (intro b1; refine Q.r ?_))
          refine N.r1 (RV.tmp rfl RV.nil) (L' := jsH p q ⟨d, n, kk, false⟩ M1 L) (by repeat (first | exact Ent.refl _ | exact Ent.nil | refine Ent.pick ?_ | refine Ent.nilS ?_ | refine Ent.nilM ?_ | refine Ent.drop ?_)) ⟨?_, M1, hl1, ?_⟩
          · unfold ptE; dsimp only; rw [if_neg (by decide), hptC, hcd, if_neg (by decide), if_pos (by rw [hnil]; rfl)]
          · unfold ptS; dsimp only; rw [if_neg (by decide), hptC, hcd, if_neg (by decide), if_pos (by rw [hnil]; rfl)]
        · have hv0' : ¬ (vs.length : Int) = 0 := by omega
          have hnn : ¬ vs.map YB.bs = [] := fun h => hv0 (by rw [← List.length_map (f := YB.bs), h]; rfl)
          refine Q.r ?_; (repeat (intro b1; refine Q.r ?_))
          refine swp_sl a1 (fun _ _ hcap => ?_)
          refine swp_abs a1 (fun M2 hl2 hs2 => ?_)
          refine swp_ent (L' := jnP q p n kk false :: diskH p d :: roM M2 :: L) (by repeat (first | exact Ent.refl _ | exact Ent.nil | refine Ent.pick ?_ | refine Ent.nilS ?_ | refine Ent.nilM ?_ | refine Ent.drop ?_)) ?_
          refine Q.dgo [true, false, false] [8, 10] [] [0, 1, 2, 3, 4, 5, 6, 7, 9, 8, 10, 11] ?_
          repeat (first | refine D.endA ?_ | refine Q.dp rfl rfl rfl ?_ | refine Q.dy rfl rfl rfl ?_ | refine D.end_ ?_ | refine Q.endH ?_ | (refine D.e rfl rfl rfl ?_; (first | refine S.gskip1 rfl ?_ | refine S.gskip rfl ?_ | refine S.y (Y.gskipU rfl) ?_); refine opsS_nil ?_; refine N.tn ?_))
          refine D.e rfl rfl rfl ?_
          refine S.cr rfl (name_spec 108 n hn _) ?_
          rintro _ _ ⟨rfl, rfl⟩
          refine Q.r ?_; (repeat (intro b1; refine Q.r ?_))
          repeat (first | refine D.endA ?_ | refine Q.dp rfl rfl rfl ?_ | refine Q.dy rfl rfl rfl ?_ | refine D.end_ ?_ | refine Q.endH ?_ | (refine D.e rfl rfl rfl ?_; (first | refine S.gskip1 rfl ?_ | refine S.gskip rfl ?_ | refine S.y (Y.gskipU rfl) ?_); refine opsS_nil ?_; refine N.tn ?_))
          refine D.e rfl rfl rfl ?_
          have hcat : catY us = frs (vs.map YB.bs) := by
            rw [catY_map, hus]
            unfold frs
            rw [List.map_map]
            refine congrArg List.flatten (List.map_congr_left fun v hv => ?_)
            show frC v.bs = frB v.bs
            unfold frC
            refine if_neg fun h => ?_
            unfold cdL at hcd
            rw [if_pos ⟨v.bs, List.mem_map_of_mem hv, h⟩] at hcd
            cases hcd
          have husl : us.length = vs.length := by
            have := congrArg List.length hus
            rwa [List.length_map, List.length_map] at this
          have hub : (catY us).length ≤ us.length * 100006 := catY_le us fun u hu => by
            have h1 : u.bs ∈ us.map YB.bs := List.mem_map_of_mem hu
            rw [hus] at h1
            obtain ⟨v, hv, he⟩ := List.mem_map.1 h1
            have h2 := hb v hv
            rw [← he]
            unfold frC
            split
            · simp
            · rw [frB_len]; omega
          refine S.ckm p rfl (Write_spec p d (nm 108 n) a1 c1 us M2 L (nm_right (by decide) hn) hfew hs2 (fun u hu => (huo u hu).1.mono hl2) hcap (by omega) (by omega)) ?_
          rintro _ _ ⟨rfl, M3, hl3, rfl⟩
          rw [hcat]
          refine Q.r ?_; (repeat (intro b1; refine Q.r ?_))
          repeat (first | refine D.endA ?_ | refine Q.dp rfl rfl rfl ?_ | refine Q.dy rfl rfl rfl ?_ | refine D.end_ ?_ | refine Q.endH ?_ | (refine D.e rfl rfl rfl ?_; (first | refine S.gskip1 rfl ?_ | refine S.gskip rfl ?_ | refine S.y (Y.gskipU rfl) ?_); refine opsS_nil ?_; refine N.tn ?_))
          by_cases he : wrE d (frs (vs.map YB.bs)) = 0
          · rw [he]
            refine Q.r ?_; (repeat (intro b1; refine Q.r ?_))
            rw [show ((kk : Int) + (vs.length : Int)) = ((kk + vs.length : Nat) : Int) from rfl]
            refine opsS_ent (L' := jnP q p n (kk + vs.length) false :: diskH p (wrS d (nm 108 n) (frs (vs.map YB.bs))) :: roM M3 :: L) (by repeat (first | exact Ent.refl _ | exact Ent.nil | refine Ent.pick ?_ | refine Ent.nilS ?_ | refine Ent.nilM ?_ | refine Ent.drop ?_)) ?_
            refine S.cr rfl (done_spec q p n _ false _ _) ?_
            rintro _ _ ⟨rfl, rfl⟩
            refine Q.r ?_; (repeat (intro b1; refine Q.r ?_))
            refine N.r1 (RV.tmp rfl RV.nil) (Ent.refl _) ⟨?_, M3, hl1.trans (hl2.trans hl3), ?_⟩
            · unfold ptE; dsimp only; rw [if_neg (by decide), hptC, hcd, if_neg (by decide), if_neg hnn, he]
            · unfold ptS; dsimp only; rw [if_neg (by decide), hptC, hcd, if_neg (by decide), if_neg hnn, he, if_pos rfl, List.length_map]
          · refine Q.r ?_; (repeat (intro b1; refine Q.r ?_))
            refine opsS_ent (L' := jnP q p n kk false :: diskH p (wrS d (nm 108 n) (frs (vs.map YB.bs))) :: roM M3 :: L) (by repeat (first | exact Ent.refl _ | exact Ent.nil | refine Ent.pick ?_ | refine Ent.nilS ?_ | refine Ent.nilM ?_ | refine Ent.drop ?_)) ?_
            refine S.cr rfl (done_spec q p n _ false _ _) ?_
            rintro _ _ ⟨rfl, rfl⟩
            refine Q.r ?_; (repeat (intro b1; refine Q.r ?_))
            refine N.r1 (RV.tmp rfl RV.nil) (Ent.refl _) ⟨?_, M3, hl1.trans (hl2.trans hl3), ?_⟩
            · unfold ptE; dsimp only; rw [if_neg (by decide), hptC, hcd, if_neg (by decide), if_neg hnn]
            · unfold ptS; dsimp only; rw [if_neg (by decide), hptC, hcd, if_neg (by decide), if_neg hnn, if_neg he]
      · have hne : ¬ ptC (vs.map YB.bs) = 0 := by rw [hptC]; exact hcd
        refine Q.r ?_; (repeat (intro b1; refine Q.r ?_))
        refine N.r1 (RV.tmp rfl RV.nil) (L' := jsH p q ⟨d, n, kk, false⟩ M1 L) (by repeat (first | exact Ent.refl _ | exact Ent.nil | refine Ent.pick ?_ | refine Ent.nilS ?_ | refine Ent.nilM ?_ | refine Ent.drop ?_)) ⟨?_, M1, hl1, ?_⟩
        · unfold ptE; dsimp only; rw [if_neg (by decide), if_pos hne, hptC]
        · unfold ptS; dsimp only; rw [if_neg (by decide), if_pos hne]
  · refine Q.r ?_; (repeat (intro b1; refine Q.r ?_))
    exact N.r1 (RV.tmp rfl RV.nil) (Ent.refl _) ⟨rfl, M, leM.refl M, rfl⟩
end Go.Proofs.YtkleenllkjodoaaGreatDoor
namespace Go.Proofs.YtkleenllkjodoaaGreatDoor
open Go Go.SX
attribute [local irreducible] swp opsS thenS blockS retS CallsS St Ent YieldS anyS drawS
def oldJ (s : JZ) : List (List UInt8) := nm 99 s.n :: if 0 < s.k then [nm 108 s.n] else []
def savE (s : JZ) (bs : List UInt8) : Int := if s.br then 10 else if layE s.d bs ≠ 0 then layE s.d bs else drE (layS s.d bs (s.n + 1)) (oldJ s)
def savS (s : JZ) (bs : List UInt8) : JZ :=
  if s.br then s else if layE s.d bs ≠ 0 then { s with d := layS s.d bs (s.n + 1), br := s.br || decide (layE s.d bs = 9) }
  else { d := drS (layS s.d bs (s.n + 1)) (oldJ s), n := s.n + 1, k := 0, br := s.br || decide (drE (layS s.d bs (s.n + 1)) (oldJ s) = 9) }
theorem lay_keep {d : DK} {bs : List UInt8} {n : Nat} {m : List UInt8} (hk : keysOK d.fs) (hm : m ≠ tN) (hn : m ≠ nm 99 n) (h : hasD d m) : hasD (layS d bs n) m := by
  have h1 : hasD (wrS d tN (stP bs)) m := by
    unfold wrS
    split
    · exact (has_put (d := d) (by rw [spendD_fs]; exact hk)).2 (.inr (by rw [spendD_fs]; exact h))
    · rw [hasD_spend]; exact h
  have hk1 : keysOK (wrS d tN (stP bs)).fs := by
    unfold wrS
    split
    · exact putL_ok (by rw [spendD_fs]; exact hk) _ _
    · rw [spendD_fs]; exact hk
  have h2 : hasD (fmS (wrS d tN (stP bs)) tN) m := by
    unfold fmS
    split
    · exact (has_put (d := d) (by rw [spendD_fs]; exact hk1)).2 (.inr (by rw [spendD_fs]; exact h1))
    · rw [hasD_spend]; exact h1
  unfold layS
  split
  · exact h1
  · split
    · exact h2
    · unfold swS
      split
      · rw [hasD_spend]; exact h2
      · show lkL (delL (spendD _).fs tN ++ _) m ≠ none
        rw [spendD_fs]
        have h3 : lkL (delL (fmS (wrS d tN (stP bs)) tN).fs tN) m ≠ none := by
          rw [lkL_delI, if_neg hm]; exact h2
        intro h4
        apply h3
        unfold lkL at h4 ⊢
        rw [List.find?_append] at h4
        cases hf : List.find? (fun u => decide (u.1 = m)) (delL (fmS (wrS d tN (stP bs)) tN).fs tN) with
        | none => rfl
        | some u => rw [hf] at h4; cases h4
set_option maxHeartbeats 4000000 in
theorem Save_spec (p q : Nat) (s : JZ) (a : Option Addr) (c : Nat) (bs : List UInt8) (M : Nat → Option Obj) (L : List HP) (hn : s.n + 1 < 100) (hk : keysOK s.d.fs) (hfew : s.d.fs.length ≤ 15) (h : SlM M a bs.length 1 (bs.map B)) (hT : NibM M) (hc : bs.length ≤ c) (hl : bs.length ≤ 1048575)
    (hno : ¬ hasD s.d (nm 99 (s.n + 1))) (hold : ∀ m ∈ oldJ s, hasD s.d m) :
    CallsS Tryz.prog 30 [ptrD q, .slice a bs.length c] (jsH p q s M L) (fun r L' => r = .int .i64 (savE s bs) ∧ ∃ M', leM M M' ∧ L' = jsH p q (savS s bs) M' L) := by
  refine CallsS.of_body Tryz.func30 rfl rfl rfl ?_
  refine Q.r ?_; (repeat (intro b1; refine Q.r ?_))
  refine S.cr rfl (closed_spec q p s.n s.k s.br _) ?_
  rintro _ _ ⟨rfl, rfl⟩
  obtain ⟨d, n, k, br⟩ := s
  have hold2 : ∀ m ∈ oldJ ⟨d, n, k, br⟩, hasD (layS d bs (n + 1)) m := fun m hm => by
    refine lay_keep hk ?_ ?_ (hold m hm)
    · intro h
      unfold oldJ at hm
      dsimp only at hm
      rcases List.mem_cons.1 hm with rfl | hm
      · simp [nm] at h
      · split at hm
        · rw [List.mem_singleton.1 hm] at h; simp [nm] at h
        · cases hm
    · intro h
      exact hno (by rw [← h]; exact hold m hm)
  dsimp only at hn hk hfew hno hold ⊢
  cases br
  · refine Q.r ?_; (repeat (intro b1; refine Q.r ?_))
    refine Q.dgo [true, false, false] [10] [] [0, 1, 2, 3, 4, 5, 6, 7, 8, 9, 10, 11] ?_
    repeat (first | refine D.endA ?_ | refine Q.dp rfl rfl rfl ?_ | refine Q.dy rfl rfl rfl ?_ | refine D.end_ ?_ | refine Q.endH ?_ | (refine D.e rfl rfl rfl ?_; (first | refine S.gskip1 rfl ?_ | refine S.gskip rfl ?_ | refine S.y (Y.gskipU rfl) ?_); refine opsS_nil ?_; refine N.tn ?_))
    refine D.e rfl rfl rfl ?_
    refine S.ckm p rfl (lay_spec p d a c (n + 1) bs M _ h hT hc hl hk hfew hn hno) ?_
    rintro _ _ ⟨rfl, M1, hl1, rfl⟩
    refine Q.r ?_; (repeat (intro b1; refine Q.r ?_))
    repeat (first | refine D.endA ?_ | refine Q.dp rfl rfl rfl ?_ | refine Q.dy rfl rfl rfl ?_ | refine D.end_ ?_ | refine Q.endH ?_ | (refine D.e rfl rfl rfl ?_; (first | refine S.gskip1 rfl ?_ | refine S.gskip rfl ?_ | refine S.y (Y.gskipU rfl) ?_); refine opsS_nil ?_; refine N.tn ?_))
    by_cases he : layE d bs = 0
    · rw [he]
      refine Q.r ?_; (repeat (intro b1; refine Q.r ?_))
      refine S.cr rfl (name_spec 99 n (by omega) _) ?_
      rintro _ _ ⟨rfl, rfl⟩
      by_cases hk0 : 0 < k
      · have hk1 : (0 : Int) < k := by omega
        have ho : oldJ ⟨d, n, k, false⟩ = [nm 99 n, nm 108 n] := by unfold oldJ; dsimp only; rw [if_pos hk0]
        refine Q.r ?_; (repeat (intro b1; refine Q.r ?_))
        refine S.cr rfl (name_spec 108 n (by omega) _) ?_
        rintro _ _ ⟨rfl, rfl⟩
        refine Q.r ?_; (repeat (intro b1; refine Q.r ?_))
        rename_i bo
        refine opsS_ent (Ent.trans (Ent.perm (.swap _ _ _)) (slO_fold (t := 9) (sz := 1) (m := 1) rfl)) ?_
        refine S.app rfl rfl (SrcS.sl RdC.row (by rfl) (by rfl)) (by rfl) (by omega) (by omega) (fun a7 c7 => ?_)
        refine Q.r ?_; (repeat (intro b1; refine Q.r ?_))
        refine opsS_abs a7 (fun M2 hl2 hs2 => ?_)
        refine S.ck p rfl (Drop_spec p (layS d bs (n + 1)) a7 c7 [nm 99 n, nm 108 n] _ (fun X => SlM.rd hs2 (hm := hasM_app X inferInstance)) (by simp) (by rw [← ho]; exact hold2)) ?_
        rintro _ _ ⟨rfl, rfl⟩
        refine Q.r ?_; (repeat (intro b1; refine Q.r ?_))
        refine opsS_ent (L' := pt q (cl [ptrD p, .int .i64 ((n : Int) + 1), .int .i64 0, .bool false] 87) :: diskH p (drS (layS d bs (n + 1)) [nm 99 n, nm 108 n]) :: roM M2 :: L) (by repeat (first | exact Ent.refl _ | exact Ent.nil | refine Ent.pick ?_ | refine Ent.nilS ?_ | refine Ent.nilM ?_ | refine Ent.drop ?_)) ?_
        refine S.cr rfl (done_spec q p (n + 1) 0 false _ _) ?_
        rintro _ _ ⟨rfl, rfl⟩
        refine Q.r ?_; (repeat (intro b1; refine Q.r ?_))
        refine N.r1 (RV.tmp rfl RV.nil) (Ent.refl _) ⟨?_, M2, hl1.trans hl2, ?_⟩
        · unfold savE; dsimp only; rw [if_neg (by decide), if_neg (fun h => h he), ho]
        · unfold savS; dsimp only; rw [if_neg (by decide), if_neg (fun h => h he), ho]
      · have hk1 : ¬ (0 : Int) < k := by omega
        have ho : oldJ ⟨d, n, k, false⟩ = [nm 99 n] := by unfold oldJ; dsimp only; rw [if_neg hk0]
        refine Q.r ?_; (repeat (intro b1; refine Q.r ?_))
        refine opsS_absR b1 (t := 9) (l := [str (nm 99 n)]) (m := 1) (cs := [str (nm 99 n)]) (Nat.le_refl _) rfl (fun M2 hl2 hs2 => ?_)
        refine S.ck p rfl (Drop_spec p (layS d bs (n + 1)) (some ⟨b1, 0, none⟩) 1 [nm 99 n] _ (fun X => SlM.rd hs2 (hm := hasM_app X inferInstance)) (by simp) (by rw [← ho]; exact hold2)) ?_
        rintro _ _ ⟨rfl, rfl⟩
        refine Q.r ?_; (repeat (intro b1; refine Q.r ?_))
        refine opsS_ent (L' := pt q (cl [ptrD p, .int .i64 ((n : Int) + 1), .int .i64 0, .bool false] 87) :: diskH p (drS (layS d bs (n + 1)) [nm 99 n]) :: roM M2 :: L) (by repeat (first | exact Ent.refl _ | exact Ent.nil | refine Ent.pick ?_ | refine Ent.nilS ?_ | refine Ent.nilM ?_ | refine Ent.drop ?_)) ?_
        refine S.cr rfl (done_spec q p (n + 1) 0 false _ _) ?_
        rintro _ _ ⟨rfl, rfl⟩
        refine Q.r ?_; (repeat (intro b1; refine Q.r ?_))
        refine N.r1 (RV.tmp rfl RV.nil) (Ent.refl _) ⟨?_, M2, hl1.trans hl2, ?_⟩
        · unfold savE; dsimp only; rw [if_neg (by decide), if_neg (fun h => h he), ho]
        · unfold savS; dsimp only; rw [if_neg (by decide), if_neg (fun h => h he), ho]
    · refine Q.r ?_; (repeat (intro b1; refine Q.r ?_))
      refine opsS_ent (L' := jnP q p n k false :: diskH p (layS d bs (n + 1)) :: roM M1 :: L) (by repeat (first | exact Ent.refl _ | exact Ent.nil | refine Ent.pick ?_ | refine Ent.nilS ?_ | refine Ent.nilM ?_ | refine Ent.drop ?_)) ?_
      refine S.cr rfl (done_spec q p n _ false _ _) ?_
      rintro _ _ ⟨rfl, rfl⟩
      refine Q.r ?_; (repeat (intro b1; refine Q.r ?_))
      refine N.r1 (RV.tmp rfl RV.nil) (Ent.refl _) ⟨?_, M1, hl1, ?_⟩
      · unfold savE; dsimp only; rw [if_neg (by decide), if_pos he]
      · unfold savS; dsimp only; rw [if_neg (by decide), if_pos he]
  · refine Q.r ?_; (repeat (intro b1; refine Q.r ?_))
    exact N.r1 (RV.tmp rfl RV.nil) (Ent.refl _) ⟨rfl, M, leM.refl M, rfl⟩
end Go.Proofs.YtkleenllkjodoaaGreatDoor
namespace Go.Proofs.YtkleenllkjodoaaGreatDoor
open Go Go.SX
attribute [local irreducible] swp opsS thenS blockS retS CallsS St Ent YieldS anyS drawS
def goodN (n : List UInt8) : Prop := (∃ k, k < 100 ∧ n = nm 99 k) ∨ (∃ k, k < 100 ∧ n = nm 108 k) ∨ n = [116] ∨ n = [97]
def numOf (x : UInt8) (n : List UInt8) : Option Nat := (List.range 100).find? (fun k => decide (nm x k = n))
theorem nm_inj {x y : UInt8} {a b : Nat} (ha : a < 100) (hb : b < 100) (h : nm x a = nm y b) : x = y ∧ a = b := by
  unfold nm at h
  exact ⟨(List.cons.inj h).1, dec_inj ha hb (List.cons.inj h).2⟩
theorem numOf_nm {x : UInt8} {k : Nat} (h : k < 100) : numOf x (nm x k) = some k := by
  unfold numOf
  rw [List.find?_range_eq_some]
  refine ⟨by simp, by simpa using h, fun j hj => ?_⟩
  simp only [Bool.not_eq_true', decide_eq_false_iff_not]
  intro he
  have := (nm_inj (by omega) h he).2
  omega
theorem numOf_ne {x b : UInt8} {bs : List UInt8} (h : b ≠ x) : numOf x (b :: bs) = none := by
  unfold numOf
  rw [List.find?_eq_none]
  intro k hk he
  have := of_decide_eq_true he
  unfold nm at this
  exact h (List.cons.inj this).1.symm
theorem number_spec (x : UInt8) (n : List UInt8) (hx : x = 99 ∨ x = 108) (hn : goodN n) (M : Nat → Option Obj) (L : List HP) [hP : HasM M L] (hE : ErrM M) :
    CallsS Tryz.prog 65 [str [x], str n] L (fun r L' => r = .tuple #[.int .i64 ((numOf x n).getD 0 : Nat), .bool (numOf x n).isSome] ∧ L' = L) := by
  have hmiss : ∀ (b : UInt8) (bs : List UInt8), n = b :: bs → 97 ≤ b.toNat → b ≠ x → bs.length ≤ 20 → CallsS Tryz.prog 65 [str [x], str n] L (fun r L' => r = .tuple #[.int .i64 ((numOf x n).getD 0 : Nat), .bool (numOf x n).isSome] ∧ L' = L) := by
    intro b bs hb h97 hne hl
    subst hb
    rw [numOf_ne hne]
    exact number_miss x b bs h97 hne hl M L hE
  have hhit : ∀ k, k < 100 → n = nm x k → CallsS Tryz.prog 65 [str [x], str n] L (fun r L' => r = .tuple #[.int .i64 ((numOf x n).getD 0 : Nat), .bool (numOf x n).isSome] ∧ L' = L) := by
    intro k hk hnk
    subst hnk
    rw [numOf_nm hk]
    exact number_hit x k hk L
  rcases hn with ⟨k, hk, rfl⟩ | ⟨k, hk, rfl⟩ | rfl | rfl
  · rcases hx with rfl | rfl
    · exact hhit k hk rfl
    · exact hmiss 99 (decD k) rfl (by decide) (by decide) (by have := decD_len hk; omega)
  · rcases hx with rfl | rfl
    · exact hmiss 108 (decD k) rfl (by decide) (by decide) (by have := decD_len hk; omega)
    · exact hhit k hk rfl
  · exact hmiss 116 [] rfl (by decide) (by rcases hx with rfl | rfl <;> decide) (by decide)
  · exact hmiss 97 [] rfl (by decide) (by rcases hx with rfl | rfl <;> decide) (by decide)
def latM (m : Int) (n : List UInt8) : Int := match numOf 99 n with | some k => max m k | none => m
def latN (ns : List (List UInt8)) : Int := ns.foldl latM (-1)
def isOld (m : Int) (n : List UInt8) : Bool := decide (n = [116]) || ((numOf 99 n).isSome && !decide (((numOf 99 n).getD 0 : Nat) = m)) || ((numOf 108 n).isSome && !decide (((numOf 108 n).getD 0 : Nat) = m))
def latO (m : Int) (ns : List (List UInt8)) : List (List UInt8) := ns.filter (isOld m)
set_option maxHeartbeats 4000000 in
theorem latest_spec (p : Nat) (d : DK) (M : Nat → Option Obj) (L : List HP) (hE : ErrM M) (hg : ∀ n ∈ namesD d, goodN n) (hfew : d.fs.length ≤ 16) :
    CallsS Tryz.prog 44 [ptrD p] (diskH p d :: roM M :: L) (fun r L' => ∃ a c M', r = .tuple #[.int .i64 (latN (namesD d)), .slice a (latO (latN (namesD d)) (namesD d)).length c] ∧ leM M M' ∧
      L' = slO 9 1 a (latO (latN (namesD d)) (namesD d)).length c ((latO (latN (namesD d)) (namesD d)).map str) :: diskH p d :: roM M' :: L) := by
  refine CallsS.of_body Tryz.func44 rfl rfl rfl ?_
  refine Q.r ?_; (repeat (intro b1; refine Q.r ?_))
  refine S.ckm p rfl (Names_spec p d M _) ?_
  rintro _ _ ⟨a, c, M1, rfl, hs, hc, hl1, rfl⟩
  refine Q.r ?_; (repeat (intro b1; refine Q.r ?_))
  have hnl : (namesD d).length = d.fs.length := by unfold namesD; rw [srtS_len, List.length_map]
  obtain ⟨ns, hnse⟩ : ∃ ns, ns = namesD d := ⟨_, rfl⟩
  rw [← hnse] at hs hg hnl ⊢
  rw [← hnl] at hs hc ⊢
  have hs1 : SlM M1 a ns.length 1 (ns.flatMap sC) := by rw [flat_sC]; exact hs
  refine swp_cutB (σ := Unit) (fun _ => [(0, ptrD p), (4, .int .i64 (latN ns))]) (fun _ => diskH p d :: roM M1 :: L) (fun _ => True) ?_ ?_
  · refine swp_loop (σ := Nat) (fun k => [(0, ptrD p), (17, .slice a ns.length c), (18, .int .i64 ns.length), (19, .int .i64 k), (4, .int .i64 (latN (ns.take k)))]) (fun _ => diskH p d :: roM M1 :: L) (fun k => k ≤ ns.length) (fun k => ns.length - k) 0 ⟨rfl, rfl, rfl, rfl, rfl, trivial⟩ (Ent.refl _) (by omega) ?_
    intro k hk
    by_cases hlt : k < ns.length
    · obtain ⟨n, hnk⟩ := mem_get hlt
      obtain ⟨b, o, rfl, hr⟩ := SlM.cm (g := sC) (fun _ => rfl) hs1 hnk rfl
      have hlat : latN (ns.take (k + 1)) = latM (latN (ns.take k)) n := by
        unfold latN; rw [take_snoc hnk, List.foldl_append]; rfl
      refine Q.r ?_; (repeat (intro b1; refine Q.r ?_))
      refine S.cr rfl (number_spec 99 n (.inl rfl) (hg n (List.mem_of_getElem? hnk)) M1 _ (hE.mono hl1)) ?_
      rintro _ _ ⟨rfl, rfl⟩
      cases hz : numOf 99 n with
      | none =>
        refine Q.r ?_; (repeat (intro b1; refine Q.r ?_))
        refine ⟨k + 1, ⟨rfl, rfl, rfl, rfl, ?_, trivial⟩, Ent.refl _, by omega, by omega⟩
        rw [hlat]; unfold latM; rw [hz]; rfl
      | some m =>
        refine Q.r ?_; (repeat (intro b1; refine Q.r ?_))
        refine ⟨k + 1, ⟨rfl, rfl, rfl, rfl, ?_, trivial⟩, Ent.refl _, by omega, by omega⟩
        rw [hlat]; unfold latM; rw [hz]; rfl
    · have hke : k = ns.length := by omega
      subst hke
      rw [List.take_length]
      refine Q.r ?_; (repeat (intro b1; refine Q.r ?_))
      exact ⟨(), ⟨rfl, rfl, trivial⟩, Ent.refl _, trivial⟩
  · intro _ _
    refine Q.r ?_; (repeat (intro b1; refine Q.r ?_))
    refine S.ckm p rfl (Names_spec p d M1 _) ?_
    rintro _ _ ⟨a2, c2, M2, rfl, hs2, hc2, hl2, rfl⟩
    rw [← hnse, ← hnl] at hs2
    rw [← hnl] at hc2 ⊢
    have hs3 : SlM M2 a2 ns.length 1 (ns.flatMap sC) := by rw [flat_sC]; exact hs2
    refine Q.r ?_; (repeat (intro b1; refine Q.r ?_))
    refine swp_cutB (σ := Option Addr × Nat) (fun s => [(4, .int .i64 (latN ns)), (9, .slice s.1 (latO (latN ns) ns).length s.2)]) (fun s => slO 9 1 s.1 (latO (latN ns) ns).length s.2 ((latO (latN ns) ns).map str) :: diskH p d :: roM M2 :: L) (fun _ => True) ?_ ?_
    · refine swp_loop (σ := Nat × Option Addr × Nat) (fun s => [(4, .int .i64 (latN ns)), (34, .slice a2 ns.length c2), (35, .int .i64 ns.length), (36, .int .i64 s.1), (9, .slice s.2.1 (latO (latN ns) (ns.take s.1)).length s.2.2)])
        (fun s => slO 9 1 s.2.1 (latO (latN ns) (ns.take s.1)).length s.2.2 ((latO (latN ns) (ns.take s.1)).map str) :: diskH p d :: roM M2 :: L) (fun s => s.1 ≤ ns.length) (fun s => ns.length - s.1) (0, none, 0) ⟨rfl, rfl, rfl, rfl, rfl, trivial⟩ slO_nil (by show 0 ≤ _; omega) ?_
      rintro ⟨k, a3, c3⟩ hk
      dsimp only at hk ⊢
      by_cases hlt : k < ns.length
      · obtain ⟨n, hnk⟩ := mem_get hlt
        obtain ⟨b, o, rfl, hr⟩ := SlM.cm (g := sC) (fun _ => rfl) hs3 hnk rfl
        have hgn := hg n (List.mem_of_getElem? hnk)
        have hol : latO (latN ns) (ns.take (k + 1)) = latO (latN ns) (ns.take k) ++ if isOld (latN ns) n then [n] else [] := by
          unfold latO; rw [take_snoc hnk, List.filter_append]
          rw [List.filter_cons, List.filter_nil]
        have hll : (latO (latN ns) (ns.take k)).length ≤ 16 := Nat.le_trans (List.length_filter_le _ _) (by rw [List.length_take]; omega)
        have hE2 := (hE.mono hl1).mono hl2
        refine Q.r ?_; (repeat (intro b1; refine Q.r ?_))
        refine S.cr rfl (number_spec 99 n (.inl rfl) hgn M2 _ hE2) ?_
        rintro _ _ ⟨rfl, rfl⟩
        refine Q.r ?_; (repeat (intro b1; refine Q.r ?_))
        refine S.cr rfl (number_spec 108 n (.inr rfl) hgn M2 _ hE2) ?_
        rintro _ _ ⟨rfl, rfl⟩
        have hkind : (∃ m, numOf 99 n = some m ∧ numOf 108 n = none ∧ n ≠ [116]) ∨ (∃ m, numOf 99 n = none ∧ numOf 108 n = some m ∧ n ≠ [116]) ∨ (numOf 99 n = none ∧ numOf 108 n = none ∧ n = [116]) ∨ (numOf 99 n = none ∧ numOf 108 n = none ∧ n ≠ [116]) := by
          rcases hgn with ⟨m, hm, rfl⟩ | ⟨m, hm, rfl⟩ | rfl | rfl
          · exact .inl ⟨m, numOf_nm hm, numOf_ne (by decide), fun h => absurd (List.cons.inj h).1 (by decide)⟩
          · exact .inr (.inl ⟨m, numOf_ne (by decide), numOf_nm hm, fun h => absurd (List.cons.inj h).1 (by decide)⟩)
          · exact .inr (.inr (.inl ⟨numOf_ne (by decide), numOf_ne (by decide), rfl⟩))
          · exact .inr (.inr (.inr ⟨numOf_ne (by decide), numOf_ne (by decide), by decide⟩))
        rcases hkind with ⟨m, e1, e2, e3⟩ | ⟨m, e1, e2, e3⟩ | ⟨e1, e2, e3⟩ | ⟨e1, e2, e3⟩
        · rw [e1, e2]
          dsimp only [Option.getD_some, Option.getD_none, Option.isSome_some, Option.isSome_none]
          by_cases hm : (m : Int) = latN ns
          · refine Q.r ?_; (repeat (intro b1; refine Q.r ?_))
            have ho : isOld (latN ns) n = false := by unfold isOld; rw [e1, e2]; simp [e3, hm]
            rw [ho, if_neg (by decide), List.append_nil] at hol
            refine ⟨(k + 1, a3, c3), ⟨rfl, rfl, rfl, rfl, ?_, trivial⟩, ?_, by show k + 1 ≤ ns.length; omega, by show ns.length - (k + 1) < ns.length - k; omega⟩
            · show some (Value.slice a3 _ c3) = some (Value.slice a3 (latO (latN ns) (ns.take (k + 1))).length c3)
              rw [hol]
            · show Ent _ (slO 9 1 a3 (latO (latN ns) (ns.take (k + 1))).length c3 ((latO (latN ns) (ns.take (k + 1))).map str) :: diskH p d :: roM M2 :: L)
              rw [hol]
              exact Ent.refl _
          · refine Q.r ?_; (repeat (intro b1; refine Q.r ?_))
            refine S.app rfl rfl (SrcS.sl RdC.row (by rfl) (by rfl)) (by rfl) (by omega) (by omega) (fun a7 c7 => ?_)
            refine Q.r ?_; (repeat (intro b1; refine Q.r ?_))
            have ho : isOld (latN ns) n = true := by unfold isOld; rw [e1, e2]; simp [e3, hm]
            rw [ho, if_pos rfl] at hol
            refine ⟨(k + 1, a7, c7), ⟨rfl, rfl, rfl, rfl, ?_, trivial⟩, ?_, by show k + 1 ≤ ns.length; omega, by show ns.length - (k + 1) < ns.length - k; omega⟩
            · show some (Value.slice a7 _ c7) = some (Value.slice a7 (latO (latN ns) (ns.take (k + 1))).length c7)
              rw [hol, List.length_append]; rfl
            · show Ent _ (slO 9 1 a7 (latO (latN ns) (ns.take (k + 1))).length c7 ((latO (latN ns) (ns.take (k + 1))).map str) :: diskH p d :: roM M2 :: L)
              rw [hol, List.length_append, List.map_append]
              exact Ent.drop (Ent.refl _)
        · rw [e1, e2]
          dsimp only [Option.getD_some, Option.getD_none, Option.isSome_some, Option.isSome_none]
          by_cases hm : (m : Int) = latN ns
          · refine Q.r ?_; (repeat (intro b1; refine Q.r ?_))
            have ho : isOld (latN ns) n = false := by unfold isOld; rw [e1, e2]; simp [e3, hm]
            rw [ho, if_neg (by decide), List.append_nil] at hol
            refine ⟨(k + 1, a3, c3), ⟨rfl, rfl, rfl, rfl, ?_, trivial⟩, ?_, by show k + 1 ≤ ns.length; omega, by show ns.length - (k + 1) < ns.length - k; omega⟩
            · show some (Value.slice a3 _ c3) = some (Value.slice a3 (latO (latN ns) (ns.take (k + 1))).length c3)
              rw [hol]
            · show Ent _ (slO 9 1 a3 (latO (latN ns) (ns.take (k + 1))).length c3 ((latO (latN ns) (ns.take (k + 1))).map str) :: diskH p d :: roM M2 :: L)
              rw [hol]
              exact Ent.refl _
          · refine Q.r ?_; (repeat (intro b1; refine Q.r ?_))
            refine S.app rfl rfl (SrcS.sl RdC.row (by rfl) (by rfl)) (by rfl) (by omega) (by omega) (fun a7 c7 => ?_)
            refine Q.r ?_; (repeat (intro b1; refine Q.r ?_))
            have ho : isOld (latN ns) n = true := by unfold isOld; rw [e1, e2]; simp [e3, hm]
            rw [ho, if_pos rfl] at hol
            refine ⟨(k + 1, a7, c7), ⟨rfl, rfl, rfl, rfl, ?_, trivial⟩, ?_, by show k + 1 ≤ ns.length; omega, by show ns.length - (k + 1) < ns.length - k; omega⟩
            · show some (Value.slice a7 _ c7) = some (Value.slice a7 (latO (latN ns) (ns.take (k + 1))).length c7)
              rw [hol, List.length_append]; rfl
            · show Ent _ (slO 9 1 a7 (latO (latN ns) (ns.take (k + 1))).length c7 ((latO (latN ns) (ns.take (k + 1))).map str) :: diskH p d :: roM M2 :: L)
              rw [hol, List.length_append, List.map_append]
              exact Ent.drop (Ent.refl _)
        · rw [e1, e2]
          dsimp only [Option.getD_some, Option.getD_none, Option.isSome_some, Option.isSome_none]
          refine Q.r ?_; (repeat (intro b1; refine Q.r ?_))
          refine S.app rfl rfl (SrcS.sl RdC.row (by rfl) (by rfl)) (by rfl) (by omega) (by omega) (fun a7 c7 => ?_)
          refine Q.r ?_; (repeat (intro b1; refine Q.r ?_))
          have ho : isOld (latN ns) n = true := by unfold isOld; rw [e1, e2]; simp [e3]
          rw [ho, if_pos rfl] at hol
          refine ⟨(k + 1, a7, c7), ⟨rfl, rfl, rfl, rfl, ?_, trivial⟩, ?_, by show k + 1 ≤ ns.length; omega, by show ns.length - (k + 1) < ns.length - k; omega⟩
          · show some (Value.slice a7 _ c7) = some (Value.slice a7 (latO (latN ns) (ns.take (k + 1))).length c7)
            rw [hol, List.length_append]; rfl
          · show Ent _ (slO 9 1 a7 (latO (latN ns) (ns.take (k + 1))).length c7 ((latO (latN ns) (ns.take (k + 1))).map str) :: diskH p d :: roM M2 :: L)
            rw [hol, List.length_append, List.map_append]
            exact Ent.drop (Ent.refl _)
        · rw [e1, e2]
          dsimp only [Option.getD_some, Option.getD_none, Option.isSome_some, Option.isSome_none]
          refine Q.r ?_; (repeat (intro b1; refine Q.r ?_))
          have ho : isOld (latN ns) n = false := by unfold isOld; rw [e1, e2]; simp [e3]
          rw [ho, if_neg (by decide), List.append_nil] at hol
          refine ⟨(k + 1, a3, c3), ⟨rfl, rfl, rfl, rfl, ?_, trivial⟩, ?_, by show k + 1 ≤ ns.length; omega, by show ns.length - (k + 1) < ns.length - k; omega⟩
          · show some (Value.slice a3 _ c3) = some (Value.slice a3 (latO (latN ns) (ns.take (k + 1))).length c3)
            rw [hol]
          · show Ent _ (slO 9 1 a3 (latO (latN ns) (ns.take (k + 1))).length c3 ((latO (latN ns) (ns.take (k + 1))).map str) :: diskH p d :: roM M2 :: L)
            rw [hol]
            exact Ent.refl _
      · have hke : k = ns.length := by omega
        subst hke
        rw [List.take_length]
        refine Q.r ?_; (repeat (intro b1; refine Q.r ?_))
        exact ⟨(a3, c3), ⟨rfl, rfl, trivial⟩, Ent.refl _, trivial⟩
    · rintro ⟨a3, c3⟩ _
      refine Q.r ?_; (repeat (intro b1; refine Q.r ?_))
      refine N.r2 (RV.tmp rfl (RV.tmp rfl RV.nil)) (Ent.refl _) ⟨a3, c3, M2, rfl, hl1.trans hl2, rfl⟩
end Go.Proofs.YtkleenllkjodoaaGreatDoor
namespace Go.Proofs.YtkleenllkjodoaaGreatDoor
open Go Go.SX
attribute [local irreducible] swp opsS thenS blockS retS CallsS St Ent YieldS anyS drawS
def logF (p : List UInt8) : List (List UInt8) := if h : nxE p = 0 ∧ nxB p ≠ [] then nxB p :: logF (nxR p) else []
termination_by p.length
decreasing_by exact nxR_lt h.1
theorem logF_ok {p : List UInt8} (h : nxE p = 0) (h2 : nxB p ≠ []) : logF p = nxB p :: logF (nxR p) := by rw [logF, dif_pos ⟨h, h2⟩]
theorem logF_no {p : List UInt8} (h : ¬ (nxE p = 0 ∧ nxB p ≠ [])) : logF p = [] := by rw [logF, dif_neg h]
theorem logF_le (p : List UInt8) : frsL (logF p) ≤ p.length := by
  induction p using logF.induct with
  | case1 p h ih =>
    rw [logF_ok h.1 h.2]
    have hn := nxE_ok h.1
    have hb := nxB_len h.1
    have : frsL (nxB p :: logF (nxR p)) = 6 + (nxB p).length + frsL (logF (nxR p)) := by simp [frsL]
    rw [this]
    unfold nxR at ih ⊢
    rw [List.length_drop] at ih
    omega
  | case2 p h => rw [logF_no h]; exact Nat.zero_le _
def loD (d : DK) (l : List UInt8) : Int × DK := if 0 < looseD d l then (fmE d l, fmS d l) else (0, d)
def logD (d : DK) (l : List UInt8) : Int × DK :=
  if rdE d l ≠ 0 then (0, d)
  else if frsL (logF (rdB d l)) < (rdB d l).length then (if tmE d l ≠ 0 then (tmE d l, tmS d l (frsL (logF (rdB d l)))) else loD (tmS d l (frsL (logF (rdB d l)))) l)
  else loD d l
def logR (d : DK) (l : List UInt8) : List (List UInt8) := if rdE d l ≠ 0 ∨ (logD d l).1 ≠ 0 then [] else logF (rdB d l)
theorem rd_file {d : DK} {l : List UInt8} (h : rdE d l = 0) : rdB d l = (fileD d l).1 := by
  unfold rdE at h
  unfold rdB fileD
  split at h
  · cases h
  · next hd =>
    rw [if_neg hd]
    split at h
    · cases h
    · next hl =>
      cases hz : lkL d.fs l with
      | none => exact absurd hz hl
      | some u => rfl
theorem rd_len {d : DK} {ts : List DE} (hd : DOK d ts) (l : List UInt8) : (rdB d l).length ≤ 1048576 := by
  unfold rdB
  split
  · simp
  · cases hz : lkL d.fs l with
    | none => simp
    | some u =>
      have hk := key_fs hd.fs hd.key
      have hm := (lkL_iff hk).1 hz
      have h1 : u.1.length ≤ usedD d.fs := sum_mem (List.mem_map_of_mem (f := fun u : FE => u.2.1.length) hm)
      have h2 := hd.used
      have h3 := hd.rm
      show u.1.length ≤ _
      omega
set_option maxHeartbeats 4000000 in
theorem log_spec (p q n k : Nat) (br : Bool) (d : DK) (M : Nat → Option Obj) (L : List HP) (hn : n < 100) (hT : NibM M) :
    CallsS Tryz.prog 46 [ptrD q] (jnP q p n k br :: diskH p d :: roM M :: L) (fun r L' => ∃ a c, r = .tuple #[.slice a (logR d (nm 108 n)).length c, .int .i64 (logD d (nm 108 n)).1] ∧ rowsR M (jnP q p n k br :: diskH p (logD d (nm 108 n)).2 :: L) (logR d (nm 108 n)) a c L') := by
  refine CallsS.ent (L' := diskH p d :: jnP q p n k br :: roM M :: L) (by repeat (first | exact Ent.refl _ | exact Ent.nil | refine Ent.pick ?_ | refine Ent.nilS ?_ | refine Ent.nilM ?_ | refine Ent.drop ?_)) (calls_disk fun mp0 ts0 hd0 => CallsS.ent (disk_shut hd0) ?_)
  have hBl := rd_len hd0 (nm 108 n)
  clear hd0
  refine CallsS.of_body Tryz.func46 rfl rfl rfl ?_
  refine Q.r ?_; (repeat (intro b1; refine Q.r ?_))
  refine S.cr rfl (name_spec 108 n hn _) ?_
  rintro _ _ ⟨rfl, rfl⟩
  generalize nm 108 n = l at *
  refine Q.r ?_; (repeat (intro b1; refine Q.r ?_))
  refine S.ckm p rfl (Read_spec p d l M _) ?_
  rintro _ _ ⟨v, M1, rfl, hv, hvo, hvc, hl1, rfl⟩
  by_cases he : rdE d l = 0
  · rw [he]
    refine Q.r ?_; (repeat (intro b1; refine Q.r ?_))
    refine swp_cutB (σ := List YB × (Nat → Option Obj) × Option Addr × Nat) (fun s => [(0, ptrD q), (4, str l), (5, v.val), (7, .slice s.2.2.1 s.1.length s.2.2.2), (8, .int .i64 (frsL (logF v.bs)))])
      (fun s => slO 31 1 s.2.2.1 s.1.length s.2.2.2 (s.1.flatMap YB.cells) :: jnP q p n k br :: diskH p d :: roM s.2.1 :: L) (fun s => s.1.map YB.bs = logF v.bs ∧ okYs s.2.1 s.1 ∧ leM M1 s.2.1) ?_ ?_
    · refine swp_loop (σ := List YB × (Nat → Option Obj) × Option Addr × Nat) (fun s => [(0, ptrD q), (4, str l), (5, v.val), (7, .slice s.2.2.1 s.1.length s.2.2.2), (8, .int .i64 (frsL (s.1.map YB.bs)))])
        (fun s => slO 31 1 s.2.2.1 s.1.length s.2.2.2 (s.1.flatMap YB.cells) :: jnP q p n k br :: diskH p d :: roM s.2.1 :: L)
        (fun s => frsL (s.1.map YB.bs) ≤ v.bs.length ∧ s.1.map YB.bs ++ logF (v.bs.drop (frsL (s.1.map YB.bs))) = logF v.bs ∧ okYs s.2.1 s.1 ∧ leM M1 s.2.1) (fun s => v.bs.length - frsL (s.1.map YB.bs)) ([], M1, none, 0) ⟨rfl, rfl, rfl, rfl, rfl, trivial⟩ (Ent.trans (M := jnP q p n k br :: diskH p d :: roM M1 :: L) (by repeat (first | exact Ent.refl _ | exact Ent.nil | refine Ent.pick ?_ | refine Ent.nilS ?_ | refine Ent.nilM ?_ | refine Ent.drop ?_)) (slO_nil (t := 31) (sz := 1))) ⟨Nat.zero_le _, rfl, (fun v hv => by cases hv), leM.refl _⟩ ?_
      rintro ⟨vs, M2, a1, c1⟩ ⟨hat, hall, hok, hl2⟩
      dsimp only at *
      have hlen := frsL_ge (vs.map YB.bs)
      rw [List.length_map] at hlen
      have hT2 := (hT.mono hl1).mono hl2
      have h1 : SlM M2 v.a v.bs.length 1 (v.bs.map B) := hvo.mono hl2
      have hvl8 : v.bs.length ≤ 1048576 := by rw [hv]; exact hBl
      have hsub := SlM.fromA (l := frsL (vs.map YB.bs)) h1 hat hvc
      rw [Nat.mul_one, ← List.map_drop] at hsub
      have eln : v.bs.length - frsL (vs.map YB.bs) = (v.bs.drop (frsL (vs.map YB.bs))).length := by rw [List.length_drop]
      by_cases hlt : frsL (vs.map YB.bs) < v.bs.length
      · generalize hk : frsL (vs.map YB.bs) = kk at *
        refine Q.r ?_; (repeat (intro b1; refine Q.r ?_))
        refine S.y (Y.slFa (l := kk) rfl rfl rfl hat (SlM.at h1)) ?_
        rw [eln] at hsub ⊢
        refine S.cq (A := roM M2) rfl (SNext_spec _ (v.c - kk) (v.bs.drop kk) M2 _ hsub hT2 (by rw [List.length_drop]; omega) (by rw [List.length_drop]; omega)) ?_
        rintro _ _ ⟨u, w, M3, rfl, hu, hw, huo, hwo, huc, hwc, hl3, rfl⟩
        have hstop : ¬ (nxE (v.bs.drop kk) = 0 ∧ nxB (v.bs.drop kk) ≠ []) → ∃ s : List YB × (Nat → Option Obj) × Option Addr × Nat, s = (vs, M3, a1, c1) ∧ s.1.map YB.bs = logF v.bs ∧ frsL (logF v.bs) = kk := by
          intro h
          have e : logF v.bs = vs.map YB.bs := by rw [← hall, logF_no h, List.append_nil]
          exact ⟨_, rfl, e.symm, by rw [e]; exact hk⟩
        by_cases hne : nxE (v.bs.drop kk) = 0
        · rw [if_pos hne] at hu hw
          rw [hne]
          by_cases hu0 : u.bs.length = 0
          · obtain ⟨s, rfl, hs1, hs2⟩ := hstop (by rintro ⟨_, h⟩; rw [← hu] at h; exact h (List.eq_nil_of_length_eq_zero hu0))
            refine Q.r ?_; (repeat (intro b1; refine Q.r ?_))
            exact ⟨(vs, M3, a1, c1), ⟨rfl, rfl, rfl, rfl, congrArg some (congrArg (Value.int .i64) (by rw [hs2])), trivial⟩, by repeat (first | exact Ent.refl _ | exact Ent.nil | refine Ent.pick ?_ | refine Ent.nilS ?_ | refine Ent.nilM ?_ | refine Ent.drop ?_), hs1, hok.mono hl3, hl2.trans hl3⟩
          · have hn := nxE_ok hne
            have hbl := nxB_len hne
            rw [List.length_drop] at hn
            have hul : u.bs.length = nxN (v.bs.drop kk) := by rw [hu, hbl]
            have hcu : catY [u] = u.bs := by simp
            refine Q.r ?_; (repeat (intro b1; refine Q.r ?_))
            refine S.cr rfl (Frame_spec (some ⟨b1, 0, none⟩) 1 [u] M3 _ _ (RdS.row1y rfl) (fun x hx => by rw [List.mem_singleton.1 hx]; exact huo.rd) (hT2.mono hl3) (Nat.le_refl _) (by simp) (by rw [hcu]; omega)) ?_
            rintro _ _ ⟨x, M4, rfl, hxb, hxo, hxc, hl4, rfl⟩
            rw [hcu, if_neg (by omega)] at hxb
            rw [hcu, if_neg (by omega)]
            have hxl : x.bs.length = 6 + u.bs.length := by rw [hxb, frB_len]
            refine Q.r ?_; (repeat (intro b1; refine Q.r ?_))
            refine S.app rfl rfl (SrcS.sl RdC.row (by rfl) (by rfl)) (by rfl) (by omega) (by omega) (fun a7 c7 => ?_)
            refine Q.r ?_; (repeat (intro b1; refine Q.r ?_))
            have hk2 : frsL ((vs ++ [u]).map YB.bs) = kk + (6 + u.bs.length) := by rw [List.map_append, frsL_app, hk]; exact congrArg (kk + ·) (frsL_one _)
            refine ⟨(vs ++ [u], M4, a7, c7), ⟨rfl, rfl, rfl, congrArg some (by simp), ?_, trivial⟩, ?_, ⟨?_, ?_, ?_, hl2.trans (hl3.trans hl4)⟩, ?_⟩
            · rw [hk2]; exact congrArg some (congrArg (Value.int .i64) (by rw [hxl]; rfl))
            · dsimp only
              rw [len_snoc, flat_snoc]
              repeat (first | exact Ent.refl _ | exact Ent.nil | refine Ent.pick ?_ | refine Ent.nilS ?_ | refine Ent.nilM ?_ | refine Ent.drop ?_)
            · dsimp only
              rw [hk2, hu, hbl]; omega
            · dsimp only
              rw [hk2, ← hall, logF_ok hne (by rw [← hu]; intro h; exact hu0 (by rw [h]; rfl)), List.map_append, List.append_assoc]
              refine congrArg _ ?_
              rw [← List.drop_drop, hul]
              show u.bs :: _ = _
              rw [hu]
              rfl
            · intro y hy
              rcases List.mem_append.1 hy with hy | hy
              · exact (hok.mono (hl3.trans hl4)) y hy
              · rw [List.mem_singleton.1 hy]; exact ⟨huo.mono hl4, huc⟩
            · dsimp only
              rw [hk2]; omega
        · obtain ⟨s, rfl, hs1, hs2⟩ := hstop (fun h => hne h.1)
          refine Q.r ?_; (repeat (intro b1; refine Q.r ?_))
          exact ⟨(vs, M3, a1, c1), ⟨rfl, rfl, rfl, rfl, congrArg some (congrArg (Value.int .i64) (by rw [hs2])), trivial⟩, by repeat (first | exact Ent.refl _ | exact Ent.nil | refine Ent.pick ?_ | refine Ent.nilS ?_ | refine Ent.nilM ?_ | refine Ent.drop ?_), hs1, hok.mono hl3, hl2.trans hl3⟩
      · have hke : frsL (vs.map YB.bs) = v.bs.length := by omega
        have e : logF v.bs = vs.map YB.bs := by
          rw [← hall, hke, List.drop_length, logF_no (by unfold nxE; simp), List.append_nil]
        refine Q.r ?_; (repeat (intro b1; refine Q.r ?_))
        exact ⟨(vs, M2, a1, c1), ⟨rfl, rfl, rfl, rfl, congrArg some (congrArg (Value.int .i64) (by rw [e])), trivial⟩, Ent.refl _, e.symm, hok, hl2⟩
    · rintro ⟨vs, M2, a1, c1⟩ ⟨hvs, hok, hl2⟩
      dsimp only at hvs hok hl2 ⊢
      rw [hv] at hvs ⊢
      by_cases hlt : frsL (logF (rdB d l)) < v.bs.length
      · have hlt2 : (frsL (logF (rdB d l)) : Int) < v.bs.length := by omega
        refine Q.r ?_; (repeat (intro b1; refine Q.r ?_))
        refine S.ck p rfl (Trim_spec p d l (frsL (logF (rdB d l))) _ (by rw [← rd_file he]; exact logF_le _)) ?_
        rintro _ _ ⟨rfl, rfl⟩
        by_cases ht : tmE d l = 0
        · rw [ht]
          refine Q.r ?_; (repeat (intro b1; refine Q.r ?_))
          have hlog : logD d l = loD (tmS d l (frsL (logF (rdB d l)))) l := by
            unfold logD; rw [if_neg (fun h => h he), if_pos (by rw [hv] at hlt; exact hlt), if_neg (fun h => h ht)]
          refine S.cq (A := diskH p (tmS d l (frsL (logF (rdB d l))))) rfl (Loose_spec p (tmS d l (frsL (logF (rdB d l)))) l _) ?_
          rintro _ _ ⟨rfl, rfl⟩
          by_cases hlo : 0 < looseD (tmS d l (frsL (logF (rdB d l)))) l
          · have hlo' : (0 : Int) < (looseD (tmS d l (frsL (logF (rdB d l)))) l : Nat) := by omega
            have hlo2 : loD (tmS d l (frsL (logF (rdB d l)))) l = (fmE (tmS d l (frsL (logF (rdB d l)))) l, fmS (tmS d l (frsL (logF (rdB d l)))) l) := by unfold loD; rw [if_pos hlo]
            refine Q.r ?_; (repeat (intro b1; refine Q.r ?_))
            refine opsS_absR b1 (t := 9) (l := [str l]) (m := 1) (cs := [str l]) (Nat.le_refl _) rfl (fun M9 hl9 hs9 => ?_)
            refine S.ckm p rfl (Firm_spec p _ l (some ⟨b1, 0, none⟩) 1 M9 _ hs9) ?_
            rintro _ _ ⟨rfl, rfl⟩
            by_cases hf : fmE (tmS d l (frsL (logF (rdB d l)))) l = 0
            · have hR : logR d l = logF (rdB d l) := by unfold logR; rw [if_neg (by rw [hlog, hlo2]; rintro (h | h); exact h he; exact h hf)]
              rw [hf]
              refine Q.r ?_; (repeat (intro b1; refine Q.r ?_))
              refine N.r2 (RV.tmp rfl (RV.tmp rfl RV.nil)) (L' := slO 31 1 a1 vs.length c1 (vs.flatMap YB.cells) :: roM M9 :: jnP q p n k br :: diskH p (fmS (tmS d l (frsL (logF (rdB d l)))) l) :: L) (by repeat (first | exact Ent.refl _ | exact Ent.nil | refine Ent.pick ?_ | refine Ent.nilS ?_ | refine Ent.nilM ?_ | refine Ent.drop ?_)) ⟨a1, c1, ?_, vs, M9, by rw [hR]; exact hvs, hok.mono hl9, (hl1.trans hl2).trans hl9, ?_⟩
              · rw [show (logR d l).length = vs.length from by rw [hR, ← hvs, List.length_map], hlog, hlo2]; dsimp only; rw [hf]
              · rw [hlog, hlo2]
            · have hR : logR d l = [] := by unfold logR; rw [if_pos (.inr (by rw [hlog, hlo2]; exact hf))]
              refine Q.r ?_; (repeat (intro b1; refine Q.r ?_))
              refine N.r2 (RV.tmp rfl (RV.tmp rfl RV.nil)) (Ent.trans (M := roM M9 :: jnP q p n k br :: diskH p (fmS (tmS d l (frsL (logF (rdB d l)))) l) :: L) (by repeat (first | exact Ent.refl _ | exact Ent.nil | refine Ent.pick ?_ | refine Ent.nilS ?_ | refine Ent.nilM ?_ | refine Ent.drop ?_)) (slO_nil (t := 31) (sz := 1))) ⟨none, 0, ?_, [], M9, by rw [hR]; rfl, fun v hv => by simp at hv, (hl1.trans hl2).trans hl9, ?_⟩
              · rw [hR, hlog, hlo2]; rfl
              · rw [hlog, hlo2]; rfl
          · have hlo' : ¬ (0 : Int) < (looseD (tmS d l (frsL (logF (rdB d l)))) l : Nat) := by omega
            have hlo2 : loD (tmS d l (frsL (logF (rdB d l)))) l = (0, (tmS d l (frsL (logF (rdB d l))))) := by unfold loD; rw [if_neg hlo]
            have hR : logR d l = logF (rdB d l) := by unfold logR; rw [if_neg (by rw [hlog, hlo2]; rintro (h | h); exact h he; exact h rfl)]
            refine Q.r ?_; (repeat (intro b1; refine Q.r ?_))
            refine N.r2 (RV.tmp rfl (RV.tmp rfl RV.nil)) (L' := slO 31 1 a1 vs.length c1 (vs.flatMap YB.cells) :: roM M2 :: jnP q p n k br :: diskH p (tmS d l (frsL (logF (rdB d l)))) :: L) (by repeat (first | exact Ent.refl _ | exact Ent.nil | refine Ent.pick ?_ | refine Ent.nilS ?_ | refine Ent.nilM ?_ | refine Ent.drop ?_)) ⟨a1, c1, ?_, vs, M2, by rw [hR]; exact hvs, hok, hl1.trans hl2, ?_⟩
            · rw [show (logR d l).length = vs.length from by rw [hR, ← hvs, List.length_map], hlog, hlo2]
            · rw [hlog, hlo2]
        · have hlog : logD d l = (tmE d l, tmS d l (frsL (logF (rdB d l)))) := by unfold logD; rw [if_neg (fun h => h he), if_pos (by rw [hv] at hlt; exact hlt), if_pos ht]
          have hR : logR d l = [] := by unfold logR; rw [if_pos (.inr (by rw [hlog]; exact ht))]
          refine Q.r ?_; (repeat (intro b1; refine Q.r ?_))
          refine N.r2 (RV.tmp rfl (RV.tmp rfl RV.nil)) (Ent.trans (M := roM M2 :: jnP q p n k br :: diskH p (tmS d l (frsL (logF (rdB d l)))) :: L) (by repeat (first | exact Ent.refl _ | exact Ent.nil | refine Ent.pick ?_ | refine Ent.nilS ?_ | refine Ent.nilM ?_ | refine Ent.drop ?_)) (slO_nil (t := 31) (sz := 1))) ⟨none, 0, ?_, [], M2, by rw [hR]; rfl, fun v hv => by simp at hv, hl1.trans hl2, ?_⟩
          · rw [hR, hlog]; rfl
          · rw [hlog]; rfl
      · have hlt2 : ¬ (frsL (logF (rdB d l)) : Int) < v.bs.length := by omega
        refine Q.r ?_; (repeat (intro b1; refine Q.r ?_))
        have hlog : logD d l = loD d l := by
          unfold logD; rw [if_neg (fun h => h he), if_neg (by rw [hv] at hlt; exact hlt)]
        refine S.cq (A := diskH p d) rfl (Loose_spec p d l _) ?_
        rintro _ _ ⟨rfl, rfl⟩
        by_cases hlo : 0 < looseD d l
        · have hlo' : (0 : Int) < (looseD d l : Nat) := by omega
          have hlo2 : loD d l = (fmE d l, fmS d l) := by unfold loD; rw [if_pos hlo]
          refine Q.r ?_; (repeat (intro b1; refine Q.r ?_))
          refine opsS_absR b1 (t := 9) (l := [str l]) (m := 1) (cs := [str l]) (Nat.le_refl _) rfl (fun M9 hl9 hs9 => ?_)
          refine S.ckm p rfl (Firm_spec p _ l (some ⟨b1, 0, none⟩) 1 M9 _ hs9) ?_
          rintro _ _ ⟨rfl, rfl⟩
          by_cases hf : fmE d l = 0
          · have hR : logR d l = logF (rdB d l) := by unfold logR; rw [if_neg (by rw [hlog, hlo2]; rintro (h | h); exact h he; exact h hf)]
            rw [hf]
            refine Q.r ?_; (repeat (intro b1; refine Q.r ?_))
            refine N.r2 (RV.tmp rfl (RV.tmp rfl RV.nil)) (L' := slO 31 1 a1 vs.length c1 (vs.flatMap YB.cells) :: roM M9 :: jnP q p n k br :: diskH p (fmS d l) :: L) (by repeat (first | exact Ent.refl _ | exact Ent.nil | refine Ent.pick ?_ | refine Ent.nilS ?_ | refine Ent.nilM ?_ | refine Ent.drop ?_)) ⟨a1, c1, ?_, vs, M9, by rw [hR]; exact hvs, hok.mono hl9, (hl1.trans hl2).trans hl9, ?_⟩
            · rw [show (logR d l).length = vs.length from by rw [hR, ← hvs, List.length_map], hlog, hlo2]; dsimp only; rw [hf]
            · rw [hlog, hlo2]
          · have hR : logR d l = [] := by unfold logR; rw [if_pos (.inr (by rw [hlog, hlo2]; exact hf))]
            refine Q.r ?_; (repeat (intro b1; refine Q.r ?_))
            refine N.r2 (RV.tmp rfl (RV.tmp rfl RV.nil)) (Ent.trans (M := roM M9 :: jnP q p n k br :: diskH p (fmS d l) :: L) (by repeat (first | exact Ent.refl _ | exact Ent.nil | refine Ent.pick ?_ | refine Ent.nilS ?_ | refine Ent.nilM ?_ | refine Ent.drop ?_)) (slO_nil (t := 31) (sz := 1))) ⟨none, 0, ?_, [], M9, by rw [hR]; rfl, fun v hv => by simp at hv, (hl1.trans hl2).trans hl9, ?_⟩
            · rw [hR, hlog, hlo2]; rfl
            · rw [hlog, hlo2]; rfl
        · have hlo' : ¬ (0 : Int) < (looseD d l : Nat) := by omega
          have hlo2 : loD d l = (0, d) := by unfold loD; rw [if_neg hlo]
          have hR : logR d l = logF (rdB d l) := by unfold logR; rw [if_neg (by rw [hlog, hlo2]; rintro (h | h); exact h he; exact h rfl)]
          refine Q.r ?_; (repeat (intro b1; refine Q.r ?_))
          refine N.r2 (RV.tmp rfl (RV.tmp rfl RV.nil)) (L' := slO 31 1 a1 vs.length c1 (vs.flatMap YB.cells) :: roM M2 :: jnP q p n k br :: diskH p d :: L) (by repeat (first | exact Ent.refl _ | exact Ent.nil | refine Ent.pick ?_ | refine Ent.nilS ?_ | refine Ent.nilM ?_ | refine Ent.drop ?_)) ⟨a1, c1, ?_, vs, M2, by rw [hR]; exact hvs, hok, hl1.trans hl2, ?_⟩
          · rw [show (logR d l).length = vs.length from by rw [hR, ← hvs, List.length_map], hlog, hlo2]
          · rw [hlog, hlo2]
  · have hlog : logD d l = (0, d) := by unfold logD; rw [if_pos he]
    have hR : logR d l = [] := by unfold logR; rw [if_pos (.inl he)]
    refine Q.r ?_; (repeat (intro b1; refine Q.r ?_))
    refine N.r2 (RV.tmp rfl (RV.tmp rfl RV.nil)) (Ent.trans (M := roM M1 :: jnP q p n k br :: diskH p d :: L) (by repeat (first | exact Ent.refl _ | exact Ent.nil | refine Ent.pick ?_ | refine Ent.nilS ?_ | refine Ent.nilM ?_ | refine Ent.drop ?_)) (slO_nil (t := 31) (sz := 1))) ⟨none, 0, ?_, [], M1, by rw [hR]; rfl, fun v hv => by simp at hv, hl1, ?_⟩
    · rw [hR, hlog]; rfl
    · rw [hlog]; rfl
end Go.Proofs.YtkleenllkjodoaaGreatDoor
namespace Go.Proofs.YtkleenllkjodoaaGreatDoor
open Go Go.SX
attribute [local irreducible] swp opsS thenS blockS retS CallsS St Ent YieldS anyS drawS
theorem latM_ge (m : Int) (n : List UInt8) : m ≤ latM m n := by
  unfold latM; split
  · omega
  · exact Int.le_refl _
theorem numOf_some {x : UInt8} {n : List UInt8} {k : Nat} (h : numOf x n = some k) : k < 100 ∧ n = nm x k := by
  unfold numOf at h
  have h1 := List.find?_some h
  have h2 := List.mem_of_find?_eq_some h
  exact ⟨by simpa using h2, (of_decide_eq_true h1).symm⟩
theorem latF (ns : List (List UInt8)) : ∀ m : Int, (ns.foldl latM m = m ∨ ∃ k : Nat, k < 100 ∧ ns.foldl latM m = k ∧ nm 99 k ∈ ns) := by
  induction ns with
  | nil => intro m; exact .inl rfl
  | cons n ns ih =>
    intro m
    rw [List.foldl_cons]
    rcases ih (latM m n) with h | ⟨k, h1, h2, h3⟩
    · rw [h]
      unfold latM
      cases hz : numOf 99 n with
      | none => exact .inl rfl
      | some k =>
        obtain ⟨hk, hn⟩ := numOf_some hz
        dsimp only
        by_cases hm : m ≤ k
        · exact .inr ⟨k, hk, by omega, by rw [hn]; simp⟩
        · exact .inl (by omega)
    · exact .inr ⟨k, h1, h2, List.mem_cons_of_mem _ h3⟩
theorem latN_cases (ns : List (List UInt8)) : latN ns = -1 ∨ ∃ k : Nat, k < 100 ∧ latN ns = k ∧ nm 99 k ∈ ns := latF ns (-1)
def opN (d : DK) : Nat := (latN (namesD d)).toNat
def opO (d : DK) : List (List UInt8) := latO (latN (namesD d)) (namesD d)
def opB (d : DK) : Option (List UInt8) := if latN (namesD d) < 0 then none else unP (rdB d (nm 99 (opN d)))
def opR (d : DK) : List (List UInt8) := logR d (nm 108 (opN d))
def opL (d : DK) : Int × DK := logD d (nm 108 (opN d))
def opD (d : DK) : Int × DK := if (opL d).1 = 0 ∧ opO d ≠ [] then (drE (opL d).2 (opO d), drS (opL d).2 (opO d)) else opL d
def opnE (d : DK) : Int := if d.down then 9 else if opB d = none then 4 else (opD d).1
def opnS (d : DK) : DK := if d.down then d else if opB d = none then d else (opD d).2
def opnR (p : Nat) (d : DK) (M : Nat → Option Obj) (L : List HP) (r : Value) (L' : List HP) : Prop :=
  ∃ M', leM M M' ∧ ((opnE d ≠ 0 ∧ r = .tuple #[nilP, .agg #[.slice none 0 0, .slice none 0 0], .int .i64 (opnE d)] ∧ L' = diskH p (opnS d) :: roM M' :: L) ∨
    (opnE d = 0 ∧ ∃ (q : Nat) (sv : YB) (a : Option Addr) (c : Nat) (vs : List YB), r = .tuple #[ptrD q, .agg #[sv.val, .slice a vs.length c], .int .i64 0] ∧ some sv.bs = opB d ∧ okYM M' sv ∧ sv.bs.length ≤ sv.c ∧ vs.map YB.bs = opR d ∧ okYs M' vs ∧ SlM M' a vs.length 1 (vs.flatMap YB.cells) ∧ vs.length ≤ c ∧
      L' = jnP q p (opN d) vs.length false :: diskH p (opnS d) :: roM M' :: L))
theorem lo_has {d : DK} {l m : List UInt8} (hk : keysOK d.fs) (h : hasD d m) : hasD (loD d l).2 m ∧ keysOK (loD d l).2.fs := by
  unfold loD
  split
  · dsimp only
    unfold fmS
    split
    · exact ⟨(has_put (d := d) (by rw [spendD_fs]; exact hk)).2 (.inr (by rw [spendD_fs]; exact h)), putL_ok (by rw [spendD_fs]; exact hk) _ _⟩
    · exact ⟨(hasD_spend d m).2 h, by rw [spendD_fs]; exact hk⟩
  · exact ⟨h, hk⟩
theorem log_has {d : DK} {l m : List UInt8} (hk : keysOK d.fs) (h : hasD d m) : hasD (logD d l).2 m := by
  have htm : ∀ x, hasD (tmS d l x) m ∧ keysOK (tmS d l x).fs := fun x => by
    unfold tmS
    split
    · exact ⟨(has_put (d := d) (by rw [spendD_fs]; exact hk)).2 (.inr (by rw [spendD_fs]; exact h)), putL_ok (by rw [spendD_fs]; exact hk) _ _⟩
    · exact ⟨(hasD_spend d m).2 h, by rw [spendD_fs]; exact hk⟩
  unfold logD
  split
  · exact h
  · split
    · split
      · exact (htm _).1
      · exact (lo_has (htm _).2 (htm _).1).1
    · exact (lo_has hk h).1
theorem name_has {d : DK} {n : List UInt8} (hk : keysOK d.fs) (h : n ∈ namesD d) : hasD d n := by
  have h1 := (srtS_perm _).mem_iff.1 h
  obtain ⟨u, hu, rfl⟩ := List.mem_map.1 h1
  intro h2
  rw [(lkL_iff hk (x := u.1) (a := u.2)).2 hu] at h2
  cases h2
theorem UpH_spec (p : Nat) (d : DK) (L : List HP) : CallsS Tryz.prog 43 [ptrD p] (diskH p d :: L) (fun r L' => r = .bool (!d.down) ∧ L' = diskH p d :: L) := by
  refine calls_disk fun mp ts hd => ?_
  refine CallsS.of_body Tryz.func43 rfl rfl rfl ?_
  refine Q.r ?_; (repeat (intro b1; refine Q.r ?_))
  refine S.cq (A := dP p mp d) rfl (PUp_spec p mp d _) ?_
  rintro _ _ ⟨rfl, rfl⟩
  refine Q.r ?_; (repeat (intro b1; refine Q.r ?_))
  exact N.r1 (RV.tmp rfl RV.nil) (Ent.trans (M := dP p mp d :: dM mp ts :: fsH ts :: L) (by repeat (first | exact Ent.refl _ | exact Ent.nil | refine Ent.pick ?_ | refine Ent.nilS ?_ | refine Ent.nilM ?_ | refine Ent.drop ?_)) (disk_shut hd)) ⟨rfl, rfl⟩
set_option maxHeartbeats 4000000 in
theorem Open_spec (p : Nat) (d : DK) (M : Nat → Option Obj) (L : List HP) (hE : ErrM M) (hT : NibM M) (hg : ∀ n ∈ namesD d, goodN n) :
    CallsS Tryz.prog 14 [ptrD p] (diskH p d :: roM M :: L) (opnR p d M L) := by
  refine calls_disk fun mp0 ts0 hd0 => CallsS.ent (disk_shut hd0) ?_
  have hBl := rd_len hd0 (nm 99 (opN d))
  have hkey := key_fs hd0.fs hd0.key
  have hfew : d.fs.length ≤ 16 := by rw [← hd0.fs, List.length_map]; exact hd0.few
  clear hd0
  refine CallsS.of_body Tryz.func14 rfl rfl rfl ?_
  refine Q.r ?_; (repeat (intro b1; refine Q.r ?_))
  rename_i b3
  revert b1
  intro b5
  refine S.cq (A := diskH p d) rfl (UpH_spec p d _) ?_
  rintro _ _ ⟨rfl, rfl⟩
  cases hdn : d.down with
  | true =>
    have hE1 : opnE d = 9 := by unfold opnE; rw [if_pos hdn]
    have hS1 : opnS d = d := by unfold opnS; rw [if_pos hdn]
    refine Q.r ?_; (repeat (intro b1; refine Q.r ?_))
    refine swp_ent (L' := pt b5 (cl [.slice none 0 0, .slice none 0 0] 37) :: pt b3 (cl [.slice none 0 0, .slice none 0 0] 37) :: diskH p d :: roM M :: L) (by repeat (first | exact Ent.refl _ | exact Ent.nil | refine Ent.pick ?_ | refine Ent.nilS ?_ | refine Ent.nilM ?_ | refine Ent.drop ?_)) ?_
    refine Q.dgo [true, false] [2] [] [0, 1, 2, 3] ?_
    repeat (first | refine D.endA ?_ | refine Q.dp rfl rfl rfl ?_ | refine Q.dy rfl rfl rfl ?_ | refine D.end_ ?_ | refine Q.endH ?_ | (refine D.e rfl rfl rfl ?_; (first | refine S.gskip1 rfl ?_ | refine S.gskip rfl ?_ | refine S.y (Y.gskipU rfl) ?_); refine opsS_nil ?_; refine N.tn ?_))
    refine D.e rfl rfl rfl ?_
    refine Q.r ?_; (repeat (intro b1; refine Q.r ?_))
    repeat (first | refine D.endA ?_ | refine Q.dp rfl rfl rfl ?_ | refine Q.dy rfl rfl rfl ?_ | refine D.end_ ?_ | refine Q.endH ?_ | (refine D.e rfl rfl rfl ?_; (first | refine S.gskip1 rfl ?_ | refine S.gskip rfl ?_ | refine S.y (Y.gskipU rfl) ?_); refine opsS_nil ?_; refine N.tn ?_))
    refine Q.r ?_; (repeat (intro b1; refine Q.r ?_))
    exact N.r3 (RV.tmp rfl (by apply RV.cellN; rfl; exact RdC.row; rfl; exact RV.tmp rfl RV.nil)) (L' := diskH p d :: roM M :: L) (by repeat (first | exact Ent.refl _ | exact Ent.nil | refine Ent.pick ?_ | refine Ent.nilS ?_ | refine Ent.nilM ?_ | refine Ent.drop ?_)) ⟨M, leM.refl M, .inl ⟨by rw [hE1]; decide, by rw [hE1], by rw [hS1]⟩⟩
  | false =>
    have hdn2 : ¬ d.down = true := by rw [hdn]; decide
    refine Q.r ?_; (repeat (intro b1; refine Q.r ?_))
    refine S.ckm p rfl (latest_spec p d M _ hE hg hfew) ?_
    rintro _ _ ⟨a1, c1, M1, rfl, hl1, rfl⟩
    refine opsS_absc a1 (fun M2 hl2 hs2 hc2 => ?_)
    have hlE := (hE.mono hl1).mono hl2
    have hlT := (hT.mono hl1).mono hl2
    rcases latN_cases (namesD d) with hN | ⟨nn, hN1, hN2, hN3⟩
    · have hB : opB d = none := by unfold opB; rw [if_pos (by rw [hN]; decide)]
      have hE1 : opnE d = 4 := by unfold opnE; rw [if_neg hdn2, if_pos hB]
      have hS1 : opnS d = d := by unfold opnS; rw [if_neg hdn2, if_pos hB]
      rw [hN]
      refine Q.r ?_; (repeat (intro b1; refine Q.r ?_))
      refine swp_ent (L' := pt b5 (cl [.slice none 0 0, .slice none 0 0] 37) :: pt b3 (cl [.slice none 0 0, .slice none 0 0] 37) :: diskH p d :: roM M2 :: L) (by repeat (first | exact Ent.refl _ | exact Ent.nil | refine Ent.pick ?_ | refine Ent.nilS ?_ | refine Ent.nilM ?_ | refine Ent.drop ?_)) ?_
      refine Q.dgo [true, false] [2] [] [0, 1, 2, 3] ?_
      repeat (first | refine D.endA ?_ | refine Q.dp rfl rfl rfl ?_ | refine Q.dy rfl rfl rfl ?_ | refine D.end_ ?_ | refine Q.endH ?_ | (refine D.e rfl rfl rfl ?_; (first | refine S.gskip1 rfl ?_ | refine S.gskip rfl ?_ | refine S.y (Y.gskipU rfl) ?_); refine opsS_nil ?_; refine N.tn ?_))
      refine D.e rfl rfl rfl ?_
      refine Q.r ?_; (repeat (intro b1; refine Q.r ?_))
      repeat (first | refine D.endA ?_ | refine Q.dp rfl rfl rfl ?_ | refine Q.dy rfl rfl rfl ?_ | refine D.end_ ?_ | refine Q.endH ?_ | (refine D.e rfl rfl rfl ?_; (first | refine S.gskip1 rfl ?_ | refine S.gskip rfl ?_ | refine S.y (Y.gskipU rfl) ?_); refine opsS_nil ?_; refine N.tn ?_))
      refine Q.r ?_; (repeat (intro b1; refine Q.r ?_))
      exact N.r3 (RV.tmp rfl (by apply RV.cellN; rfl; exact RdC.row; rfl; exact RV.tmp rfl RV.nil)) (L' := diskH p d :: roM M2 :: L) (by repeat (first | exact Ent.refl _ | exact Ent.nil | refine Ent.pick ?_ | refine Ent.nilS ?_ | refine Ent.nilM ?_ | refine Ent.drop ?_)) ⟨M2, hl1.trans hl2, .inl ⟨by rw [hE1]; decide, by rw [hE1], by rw [hS1]⟩⟩
    · have hNn : opN d = nn := by unfold opN; rw [hN2]; rfl
      have hNp : ¬ latN (namesD d) < 0 := by rw [hN2]; omega
      have hNp2 : ¬ (nn : Int) < 0 := by omega
      have hOl : (latO (latN (namesD d)) (namesD d)) = opO d := rfl
      rw [hOl] at *
      rw [hN2]
      refine Q.r ?_; (repeat (intro b1; refine Q.r ?_))
      refine S.cr rfl (name_spec 99 nn hN1 _) ?_
      rintro _ _ ⟨rfl, rfl⟩
      refine Q.r ?_; (repeat (intro b1; refine Q.r ?_))
      refine S.ckm p rfl (Read_spec p d (nm 99 nn) M2 _) ?_
      rintro _ _ ⟨v, M3, rfl, hv, hvo, hvc, hl3, rfl⟩
      rw [hNn] at hBl
      refine Q.r ?_; (repeat (intro b1; refine Q.r ?_))
      refine S.cq (A := roM M3) rfl (unpack_spec v.a v.c v.bs M3 _ hvo (hlT.mono hl3) hvc (by rw [hv]; omega)) ?_
      rintro _ _ ⟨u, M4, rfl, hu, huo, huc, hl4, rfl⟩
      have hBe : opB d = unP v.bs := by unfold opB; rw [if_neg hNp, hNn, hv]
      cases hun : unP v.bs with
      | none =>
        have hB : opB d = none := by rw [hBe, hun]
        have hE1 : opnE d = 4 := by unfold opnE; rw [if_neg hdn2, if_pos hB]
        have hS1 : opnS d = d := by unfold opnS; rw [if_neg hdn2, if_pos hB]
        refine Q.r ?_; (repeat (intro b1; refine Q.r ?_))
        refine swp_ent (L' := pt b5 (cl [.slice none 0 0, .slice none 0 0] 37) :: pt b3 (cl [.slice none 0 0, .slice none 0 0] 37) :: diskH p d :: roM M4 :: L) (by repeat (first | exact Ent.refl _ | exact Ent.nil | refine Ent.pick ?_ | refine Ent.nilS ?_ | refine Ent.nilM ?_ | refine Ent.drop ?_)) ?_
        refine Q.dgo [true, false] [2] [] [0, 1, 2, 3] ?_
        repeat (first | refine D.endA ?_ | refine Q.dp rfl rfl rfl ?_ | refine Q.dy rfl rfl rfl ?_ | refine D.end_ ?_ | refine Q.endH ?_ | (refine D.e rfl rfl rfl ?_; (first | refine S.gskip1 rfl ?_ | refine S.gskip rfl ?_ | refine S.y (Y.gskipU rfl) ?_); refine opsS_nil ?_; refine N.tn ?_))
        refine D.e rfl rfl rfl ?_
        refine Q.r ?_; (repeat (intro b1; refine Q.r ?_))
        repeat (first | refine D.endA ?_ | refine Q.dp rfl rfl rfl ?_ | refine Q.dy rfl rfl rfl ?_ | refine D.end_ ?_ | refine Q.endH ?_ | (refine D.e rfl rfl rfl ?_; (first | refine S.gskip1 rfl ?_ | refine S.gskip rfl ?_ | refine S.y (Y.gskipU rfl) ?_); refine opsS_nil ?_; refine N.tn ?_))
        refine Q.r ?_; (repeat (intro b1; refine Q.r ?_))
        exact N.r3 (RV.tmp rfl (by apply RV.cellN; rfl; exact RdC.row; rfl; exact RV.tmp rfl RV.nil)) (L' := diskH p d :: roM M4 :: L) (by repeat (first | exact Ent.refl _ | exact Ent.nil | refine Ent.pick ?_ | refine Ent.nilS ?_ | refine Ent.nilM ?_ | refine Ent.drop ?_)) ⟨M4, hl1.trans (hl2.trans (hl3.trans hl4)), .inl ⟨by rw [hE1]; decide, by rw [hE1], by rw [hS1]⟩⟩
      | some z =>
        refine Q.r ?_; (repeat (intro b1; refine Q.r ?_))
        refine opsS_ent (L' := jnP b1 p nn 0 false :: diskH p d :: roM M4 :: pt b5 (cl [.slice none 0 0, .slice none 0 0] 37) :: pt b3 (cl [.slice none 0 0, .slice none 0 0] 37) :: L) (by repeat (first | exact Ent.refl _ | exact Ent.nil | refine Ent.pick ?_ | refine Ent.nilS ?_ | refine Ent.nilM ?_ | refine Ent.drop ?_)) ?_
        refine S.cr rfl (log_spec p b1 nn 0 false d M4 _ hN1 ((hlT.mono hl3).mono hl4)) ?_
        rintro _ _ ⟨a2, c2, rfl, vs, M5, hvs, hok, hl5, rfl⟩
        have hL : opL d = logD d (nm 108 nn) := by unfold opL; rw [hNn]
        have hR : opR d = logR d (nm 108 nn) := by unfold opR; rw [hNn]
        rw [← hL, ← hR]
        rw [← hR] at hvs
        have hvl : (opR d).length = vs.length := by rw [← hvs, List.length_map]
        rw [hvl]
        refine opsS_absc a2 (fun M6 hl6 hs6 hc6 => ?_)
        have hB : ¬ opB d = none := by rw [hBe, hun]; intro h; cases h
        have hE1 : opnE d = (opD d).1 := by unfold opnE; rw [if_neg hdn2, if_neg hB]
        have hS1 : opnS d = (opD d).2 := by unfold opnS; rw [if_neg hdn2, if_neg hB]
        have hlM : leM M M6 := hl1.trans (hl2.trans (hl3.trans (hl4.trans (hl5.trans hl6))))
        by_cases he1 : (opL d).1 = 0
        · rw [he1]
          by_cases ho0 : (opO d).length = 0
          · have hon : opO d = [] := List.eq_nil_of_length_eq_zero ho0
            have hD : opD d = opL d := by unfold opD; rw [if_neg (fun h => h.2 hon)]
            rw [hD] at hE1 hS1
            have ho1 : ¬ (0 : Int) < (opO d).length := by omega
            refine Q.r ?_; (repeat (intro b1; refine Q.r ?_))
            refine N.r3 (RV.tmp rfl (by apply RV.cellN; rfl; exact RdC.row; rfl; exact RV.tmp rfl RV.nil)) (L' := jnP b1 p nn vs.length false :: diskH p (opL d).2 :: roM M6 :: L) (by repeat (first | exact Ent.refl _ | exact Ent.nil | refine Ent.pick ?_ | refine Ent.nilS ?_ | refine Ent.nilM ?_ | refine Ent.drop ?_)) ⟨M6, hlM, .inr ⟨?_, b1, u, a2, c2, vs, rfl, ?_, huo.mono (hl5.trans hl6), huc, hvs, hok.mono hl6, hs6, hc6, ?_⟩⟩
            · rw [hE1]; exact he1
            · rw [hBe, hun]; rw [hun] at hu; rw [hu]; rfl
            · rw [hS1, hNn]
          · have hon : opO d ≠ [] := fun h => ho0 (by rw [h]; rfl)
            have hD : opD d = (drE (opL d).2 (opO d), drS (opL d).2 (opO d)) := by unfold opD; rw [if_pos ⟨he1, hon⟩]
            rw [hD] at hE1 hS1
            have ho1 : (0 : Int) < (opO d).length := by omega
            refine Q.r ?_; (repeat (intro b1; refine Q.r ?_))
            refine S.ck p rfl (Drop_spec p (opL d).2 a1 c1 (opO d) _ (fun X => SlM.rd (hs2.mono (hl3.trans (hl4.trans (hl5.trans hl6)))) (hm := hasM_app X inferInstance)) (Nat.le_trans (List.length_filter_le _ _) (by unfold namesD; rw [srtS_len, List.length_map]; omega)) (fun x hx => by unfold opL; exact log_has hkey (name_has hkey (List.mem_filter.1 hx).1))) ?_
            rintro _ _ ⟨rfl, rfl⟩
            by_cases he2 : drE (opL d).2 (opO d) = 0
            · rw [he2]
              refine Q.r ?_; (repeat (intro b1; refine Q.r ?_))
              refine N.r3 (RV.tmp rfl (by apply RV.cellN; rfl; exact RdC.row; rfl; exact RV.tmp rfl RV.nil)) (L' := jnP b1 p nn vs.length false :: diskH p (drS (opL d).2 (opO d)) :: roM M6 :: L) (by repeat (first | exact Ent.refl _ | exact Ent.nil | refine Ent.pick ?_ | refine Ent.nilS ?_ | refine Ent.nilM ?_ | refine Ent.drop ?_)) ⟨M6, hlM, .inr ⟨?_, b1, u, a2, c2, vs, rfl, ?_, huo.mono (hl5.trans hl6), huc, hvs, hok.mono hl6, hs6, hc6, ?_⟩⟩
              · rw [hE1]; exact he2
              · rw [hBe, hun]; rw [hun] at hu; rw [hu]; rfl
              · rw [hS1, hNn]
            · refine Q.r ?_; (repeat (intro b1; refine Q.r ?_))
              refine swp_ent (L' := pt b5 (cl [.slice none 0 0, .slice none 0 0] 37) :: pt b3 (cl [.slice none 0 0, .slice none 0 0] 37) :: diskH p (drS (opL d).2 (opO d)) :: roM M6 :: L) (by repeat (first | exact Ent.refl _ | exact Ent.nil | refine Ent.pick ?_ | refine Ent.nilS ?_ | refine Ent.nilM ?_ | refine Ent.drop ?_)) ?_
              refine Q.dgo [true, false] [3] [] [0, 1, 2, 3, 4] ?_
              repeat (first | refine D.endA ?_ | refine Q.dp rfl rfl rfl ?_ | refine Q.dy rfl rfl rfl ?_ | refine D.end_ ?_ | refine Q.endH ?_ | (refine D.e rfl rfl rfl ?_; (first | refine S.gskip1 rfl ?_ | refine S.gskip rfl ?_ | refine S.y (Y.gskipU rfl) ?_); refine opsS_nil ?_; refine N.tn ?_))
              refine D.e rfl rfl rfl ?_
              refine Q.r ?_; (repeat (intro b1; refine Q.r ?_))
              repeat (first | refine D.endA ?_ | refine Q.dp rfl rfl rfl ?_ | refine Q.dy rfl rfl rfl ?_ | refine D.end_ ?_ | refine Q.endH ?_ | (refine D.e rfl rfl rfl ?_; (first | refine S.gskip1 rfl ?_ | refine S.gskip rfl ?_ | refine S.y (Y.gskipU rfl) ?_); refine opsS_nil ?_; refine N.tn ?_))
              refine Q.r ?_; (repeat (intro b1; refine Q.r ?_))
              refine N.r3 (RV.tmp rfl (by apply RV.cellN; rfl; exact RdC.row; rfl; exact RV.tmp rfl RV.nil)) (L' := diskH p (drS (opL d).2 (opO d)) :: roM M6 :: L) (by repeat (first | exact Ent.refl _ | exact Ent.nil | refine Ent.pick ?_ | refine Ent.nilS ?_ | refine Ent.nilM ?_ | refine Ent.drop ?_)) ⟨M6, hlM, .inl ⟨?_, ?_, ?_⟩⟩
              · rw [hE1]; exact he2
              · rw [hE1]
              · rw [hS1]
        · have hD : opD d = opL d := by unfold opD; rw [if_neg (fun h => he1 h.1)]
          rw [hD] at hE1 hS1
          have he2 := he1
          refine Q.r ?_; (repeat (intro b1; refine Q.r ?_))
          refine swp_ent (L' := pt b5 (cl [.slice none 0 0, .slice none 0 0] 37) :: pt b3 (cl [.slice none 0 0, .slice none 0 0] 37) :: diskH p (opL d).2 :: roM M6 :: L) (by repeat (first | exact Ent.refl _ | exact Ent.nil | refine Ent.pick ?_ | refine Ent.nilS ?_ | refine Ent.nilM ?_ | refine Ent.drop ?_)) ?_
          refine Q.dgo [true, false] [3] [] [0, 1, 2, 3, 4] ?_
          repeat (first | refine D.endA ?_ | refine Q.dp rfl rfl rfl ?_ | refine Q.dy rfl rfl rfl ?_ | refine D.end_ ?_ | refine Q.endH ?_ | (refine D.e rfl rfl rfl ?_; (first | refine S.gskip1 rfl ?_ | refine S.gskip rfl ?_ | refine S.y (Y.gskipU rfl) ?_); refine opsS_nil ?_; refine N.tn ?_))
          refine D.e rfl rfl rfl ?_
          refine Q.r ?_; (repeat (intro b1; refine Q.r ?_))
          repeat (first | refine D.endA ?_ | refine Q.dp rfl rfl rfl ?_ | refine Q.dy rfl rfl rfl ?_ | refine D.end_ ?_ | refine Q.endH ?_ | (refine D.e rfl rfl rfl ?_; (first | refine S.gskip1 rfl ?_ | refine S.gskip rfl ?_ | refine S.y (Y.gskipU rfl) ?_); refine opsS_nil ?_; refine N.tn ?_))
          refine Q.r ?_; (repeat (intro b1; refine Q.r ?_))
          refine N.r3 (RV.tmp rfl (by apply RV.cellN; rfl; exact RdC.row; rfl; exact RV.tmp rfl RV.nil)) (L' := diskH p (opL d).2 :: roM M6 :: L) (by repeat (first | exact Ent.refl _ | exact Ent.nil | refine Ent.pick ?_ | refine Ent.nilS ?_ | refine Ent.nilM ?_ | refine Ent.drop ?_)) ⟨M6, hlM, .inl ⟨?_, ?_, ?_⟩⟩
          · rw [hE1]; exact he2
          · rw [hE1]
          · rw [hS1]
end Go.Proofs.YtkleenllkjodoaaGreatDoor
namespace Go.Proofs.YtkleenllkjodoaaGreatDoor
open Go Go.SX
attribute [local irreducible] swp opsS thenS blockS retS CallsS St Ent YieldS anyS drawS
set_option maxHeartbeats 400000 in
theorem YSame_spec (u v : YB) (L : List HP) (h : okY L u) (h' : okY L v) :
    CallsS Tryz.prog 18 [u.val, v.val] L (fun r L' => r = .bool (decide (u.bs = v.bs)) ∧ L' = L) := by
  refine CallsS.of_body Tryz.func18 rfl rfl rfl ?_
  repeat (first | (refine GQ.y ?_; refine Q.y ?_) | refine Q.go ?_ | (refine GQ.g ?_; refine Q.gq ?_) | (refine GQ.s ?_; refine Q.st ?_))
  refine S.y (by refine Y.b2s (bs := u.bs) (by rfl) ?_; exact h.sub) ?_
  repeat (first | (refine GQ.y ?_; refine Q.y ?_) | refine Q.go ?_ | (refine GQ.g ?_; refine Q.gq ?_) | (refine GQ.s ?_; refine Q.st ?_))
  refine S.y (by refine Y.b2s (bs := v.bs) (by rfl) ?_; exact h'.sub) ?_
  repeat (first | (refine GQ.y ?_; refine Q.y ?_) | refine Q.go ?_ | (refine GQ.g ?_; refine Q.gq ?_) | (refine GQ.s ?_; refine Q.st ?_))
  try refine S.y (Y.eqst (a := u.bs) (b := v.bs) rfl rfl) ?_
  repeat (first | (refine GQ.y ?_; refine Q.y ?_) | refine Q.go ?_ | (refine GQ.g ?_; refine Q.gq ?_) | (refine GQ.s ?_; refine Q.st ?_))
  refine N.r1 (RV.tmp rfl RV.nil) (Ent.refl _) ⟨rfl, rfl⟩
set_option maxHeartbeats 1000000 in
theorem Few6_spec (a : Option Addr) (c : Nat) (vs : List YB) (n size : Nat) (M : Nat → Option Obj) (L0 : List HP) (h : SlM M a vs.length 1 (vs.flatMap YB.cells)) (hok : okYs M vs) (hn : n ≤ 1000) (hs : size ≤ 100000) (hl : vs.length ≤ 9223372036854775807) :
    CallsS Tryz.prog 11 [.slice a vs.length c, .int .i64 n, .int .i64 size] (roM M :: L0) (fun r L' => ∃ a' c', r = .slice a' ((vs.take n).map fun v => v.bs.take size).length c' ∧ rowsR M L0 ((vs.take n).map fun v => v.bs.take size) a' c' L') := by
  refine CallsS.of_body Tryz.func11 rfl rfl rfl ?_
  refine Q.r ?_; (repeat (intro b1; refine Q.r ?_))
  refine swp_cutB (σ := List YB × (Nat → Option Obj) × Option Addr × Nat) (fun s => [(7, .slice s.2.2.1 s.1.length s.2.2.2)])
    (fun s => slO 31 1 s.2.2.1 s.1.length s.2.2.2 (s.1.flatMap YB.cells) :: roM s.2.1 :: L0) (fun s => s.1.map YB.bs = (vs.take n).map (fun v => v.bs.take size) ∧ okYs s.2.1 s.1 ∧ leM M s.2.1) ?_ ?_
  · refine swp_loop (σ := Nat × List YB × (Nat → Option Obj) × Option Addr × Nat) (fun s => [(1, .int .i64 n), (2, .int .i64 size), (10, .slice a vs.length c), (11, .int .i64 vs.length), (12, .int .i64 s.1), (7, .slice s.2.2.2.1 s.2.1.length s.2.2.2.2)])
      (fun s => slO 31 1 s.2.2.2.1 s.2.1.length s.2.2.2.2 (s.2.1.flatMap YB.cells) :: roM s.2.2.1 :: L0) (fun s => s.1 ≤ vs.length ∧ s.2.1.map YB.bs = ((vs.take s.1).take n).map (fun v => v.bs.take size) ∧ okYs s.2.2.1 s.2.1 ∧ leM M s.2.2.1) (fun s => vs.length - s.1) (0, [], M, none, 0) ⟨rfl, rfl, rfl, rfl, rfl, rfl, trivial⟩ slO_nil ⟨by show 0 ≤ _; omega, by simp, fun v hv => by simp at hv, leM.refl M⟩ ?_
    rintro ⟨k, us, M1, a1, c1⟩ ⟨hk, hus, huo, hl1⟩
    dsimp only at hk hus huo hl1 ⊢
    by_cases hlt : k < vs.length
    · obtain ⟨v, hv⟩ := mem_get hlt
      obtain ⟨b, o, rfl, hr⟩ := SlM.cm (g := YB.cells) (fun _ => rfl) (h.mono hl1) hv rfl
      have hvm := List.mem_of_getElem? hv
      by_cases hkn : k < n
      · have hkn' : (k : Int) < n := by omega
        have hul : us.length = k := by
          have := congrArg List.length hus
          rw [List.length_map, List.length_map, List.length_take, List.length_take] at this; omega
        refine Q.r ?_; (repeat (intro b1; refine Q.r ?_))
        refine S.cr rfl (RCut_spec v.a v.c v.bs size _ (((hok v hvm).1.mono hl1).rd) (hok v hvm).2 (by omega)) ?_
        rintro _ _ ⟨a2, c2, rfl, rfl⟩
        refine opsS_absc a2 (fun M2 hl2 hs2 hc2 => ?_)
        refine Q.r ?_; (repeat (intro b1; refine Q.r ?_))
        refine S.app rfl rfl (SrcS.sl RdC.row (by rfl) (by rfl)) (by rfl) (by omega) (by omega) (fun a7 c7 => ?_)
        refine Q.r ?_; (repeat (intro b1; refine Q.r ?_))
        refine ⟨(k + 1, us ++ [(⟨a2, c2, v.bs.take size⟩ : YB)], M2, a7, c7), ⟨rfl, rfl, rfl, rfl, rfl, congrArg some (by simp), trivial⟩, ?_, ⟨by show k + 1 ≤ vs.length; omega, ?_, ?_, hl1.trans hl2⟩, by show vs.length - (k + 1) < vs.length - k; omega⟩
        · dsimp only
          rw [len_snoc, flat_snoc]
          repeat (first | exact Ent.refl _ | exact Ent.nil | refine Ent.pick ?_ | refine Ent.nilS ?_ | refine Ent.nilM ?_ | refine Ent.drop ?_)
        · show (us ++ [(⟨a2, c2, v.bs.take size⟩ : YB)]).map YB.bs = ((vs.take (k + 1)).take n).map (fun v => v.bs.take size)
          rw [List.map_append, hus, List.take_take, List.take_take, Nat.min_eq_right (by omega), Nat.min_eq_right (by omega), take_snoc hv, List.map_append]
          rfl
        · intro w hw
          rcases List.mem_append.1 hw with hw | hw
          · exact (huo.mono hl2) w hw
          · rw [List.mem_singleton.1 hw]; exact ⟨hs2, hc2⟩
      · have hkn' : ¬ (k : Int) < n := by omega
        refine Q.r ?_; (repeat (intro b1; refine Q.r ?_))
        refine ⟨(k + 1, us, M1, a1, c1), ⟨rfl, rfl, rfl, rfl, rfl, rfl, trivial⟩, Ent.refl _, ⟨by show k + 1 ≤ vs.length; omega, ?_, huo, hl1⟩, by show vs.length - (k + 1) < vs.length - k; omega⟩
        show us.map YB.bs = _
        rw [hus, List.take_take, List.take_take, Nat.min_eq_left (by omega), Nat.min_eq_left (by omega)]
    · have hke : k = vs.length := by omega
      subst hke
      rw [List.take_length] at hus
      refine Q.r ?_; (repeat (intro b1; refine Q.r ?_))
      exact ⟨(us, M1, a1, c1), ⟨rfl, trivial⟩, Ent.refl _, hus, huo, hl1⟩
  · rintro ⟨us, M1, a1, c1⟩ ⟨hus, huo, hl1⟩
    dsimp only at hus huo hl1 ⊢
    refine Q.r ?_; (repeat (intro b1; refine Q.r ?_))
    have hul : ((vs.take n).map fun v => v.bs.take size).length = us.length := by rw [← hus, List.length_map]
    exact N.r1 (RV.tmp rfl RV.nil) (Ent.refl _) ⟨a1, c1, by rw [hul], us, M1, hus, huo, hl1, rfl⟩
set_option maxHeartbeats 1000000 in
theorem Same6_spec (a a' : Option Addr) (c c' : Nat) (us vs : List YB) (M : Nat → Option Obj) (L0 : List HP) (h : SlM M a us.length 1 (us.flatMap YB.cells)) (hu : okYs M us) (h' : SlM M a' vs.length 1 (vs.flatMap YB.cells)) (hv : okYs M vs) (hl : us.length ≤ 9223372036854775807) :
    CallsS Tryz.prog 16 [.slice a us.length c, .slice a' vs.length c'] (roM M :: L0) (fun r L' => r = .bool (decide (us.map YB.bs = vs.map YB.bs)) ∧ L' = roM M :: L0) := by
  refine CallsS.of_body Tryz.func16 rfl rfl rfl ?_
  by_cases hlen : us.length = vs.length
  · have hlen' : (us.length : Int) = (vs.length : Int) := by omega
    refine Q.r ?_; (repeat (intro b1; refine Q.r ?_))
    refine swp_cutB (σ := Unit) (fun _ => []) (fun _ => roM M :: L0) (fun _ => us.map YB.bs = vs.map YB.bs) ?_ ?_
    · refine swp_loop (σ := Nat) (fun k => [(0, .slice a us.length c), (1, .slice a' vs.length c'), (12, .int .i64 us.length), (13, .int .i64 k)]) (fun _ => roM M :: L0) (fun k => k ≤ us.length ∧ (us.take k).map YB.bs = (vs.take k).map YB.bs) (fun k => us.length - k) 0 ⟨rfl, rfl, rfl, rfl, trivial⟩ (Ent.refl _) ⟨by omega, rfl⟩ ?_
      rintro k ⟨hk, heq⟩
      by_cases hlt : k < us.length
      · obtain ⟨u, huk⟩ := mem_get hlt
        obtain ⟨v, hvk⟩ := mem_get (show k < vs.length by omega)
        obtain ⟨b, o, rfl, hr⟩ := SlM.cm (g := YB.cells) (fun _ => rfl) h huk rfl
        obtain ⟨b2, o2, rfl, hr2⟩ := SlM.cm (g := YB.cells) (fun _ => rfl) h' hvk rfl
        refine Q.r ?_; (repeat (intro b1; refine Q.r ?_))
        refine Q.dgo [true] [8] [8] [0, 1, 2, 3, 4, 5, 6, 7, 8, 9] ?_
        repeat (first | refine D.endA ?_ | refine Q.dp rfl rfl rfl ?_ | refine Q.dy rfl rfl rfl ?_ | refine D.end_ ?_ | refine Q.endH ?_ | (refine D.e rfl rfl rfl ?_; (first | refine S.gskip1 rfl ?_ | refine S.gskip rfl ?_ | refine S.y (Y.gskipU rfl) ?_); refine opsS_nil ?_; refine N.tn ?_))
        refine Q.dc rfl rfl rfl rfl ?_
        refine S.cr rfl (YSame_spec u v _ (hu u (List.mem_of_getElem? huk)).1.rd (hv v (List.mem_of_getElem? hvk)).1.rd) ?_
        rintro _ _ ⟨rfl, rfl⟩
        refine Q.r ?_; (repeat (intro b1; refine Q.r ?_))
        repeat (first | refine D.endA ?_ | refine Q.dp rfl rfl rfl ?_ | refine Q.dy rfl rfl rfl ?_ | refine D.end_ ?_ | refine Q.endH ?_ | (refine D.e rfl rfl rfl ?_; (first | refine S.gskip1 rfl ?_ | refine S.gskip rfl ?_ | refine S.y (Y.gskipU rfl) ?_); refine opsS_nil ?_; refine N.tn ?_))
        by_cases he : u.bs = v.bs
        · rw [decide_eq_true he]
          refine Q.r ?_; (repeat (intro b1; refine Q.r ?_))
          refine ⟨k + 1, ⟨rfl, rfl, rfl, rfl, trivial⟩, Ent.refl _, ⟨by omega, ?_⟩, by omega⟩
          rw [take_snoc huk, take_snoc hvk, List.map_append, List.map_append, heq]
          show _ ++ [u.bs] = _ ++ [v.bs]
          rw [he]
        · rw [decide_eq_false he]
          refine Q.r ?_; (repeat (intro b1; refine Q.r ?_))
          refine N.r1 (RV.tmp rfl RV.nil) (Ent.refl _) ⟨?_, rfl⟩
          rw [decide_eq_false]
          intro h3
          have h1 : (us.map YB.bs)[k]? = some u.bs := by rw [List.getElem?_map, huk]; rfl
          have h2 : (vs.map YB.bs)[k]? = some v.bs := by rw [List.getElem?_map, hvk]; rfl
          rw [h3, h2] at h1
          exact he (Option.some.inj h1).symm
      · have hke : k = us.length := by omega
        subst hke
        rw [List.take_length, hlen, List.take_length] at heq
        refine Q.r ?_; (repeat (intro b1; refine Q.r ?_))
        exact ⟨(), trivial, Ent.refl _, heq⟩
    · intro _ heq
      refine Q.r ?_; (repeat (intro b1; refine Q.r ?_))
      exact N.r1 (RV.tmp rfl RV.nil) (Ent.refl _) ⟨by rw [decide_eq_true heq], rfl⟩
  · have hlen' : ¬ (us.length : Int) = (vs.length : Int) := by omega
    refine Q.r ?_; (repeat (intro b1; refine Q.r ?_))
    exact N.r1 (RV.tmp rfl RV.nil) (Ent.refl _) ⟨by rw [decide_eq_false fun h => hlen (by rw [← List.length_map (f := YB.bs), h, List.length_map])], rfl⟩
end Go.Proofs.YtkleenllkjodoaaGreatDoor
namespace Go.Proofs.YtkleenllkjodoaaGreatDoor
open Go Go.SX
theorem frs_app (a b : List (List UInt8)) : frs (a ++ b) = frs a ++ frs b := by unfold frs; rw [List.map_append, List.flatten_append]
theorem frs_cons (a : List UInt8) (b : List (List UInt8)) : frs (a :: b) = frB a ++ frs b := by unfold frs; rw [List.map_cons, List.flatten_cons]
theorem frs_len (l : List (List UInt8)) : (frs l).length = frsL l := by
  induction l with
  | nil => rfl
  | cons x l ih =>
    rw [frs_cons, List.length_append, ih, frB_len]
    simp [frsL]
theorem allF_fr {l : List (List UInt8)} {r : List UInt8} (h : ∀ x ∈ l, x.length ≤ 4096) : allF (frs l ++ r) = l ++ allF r := by
  induction l with
  | nil => rfl
  | cons x l ih =>
    obtain ⟨h1, h2, h3, _⟩ := nx_fr x (frs l ++ r) (h x (by simp))
    rw [frs_cons, List.append_assoc, allF_ok h1, h2, h3, ih (fun y hy => h y (by simp [hy]))]
    rfl
theorem nxE_nil : nxE [] ≠ 0 := by unfold nxE; simp
theorem logF_fr {l : List (List UInt8)} {r : List UInt8} (h : ∀ x ∈ l, x.length ≤ 4096 ∧ x.length ≠ 0) : logF (frs l ++ r) = l ++ logF r := by
  induction l with
  | nil => rfl
  | cons x l ih =>
    have hx := h x (by simp)
    obtain ⟨h1, h2, h3, _⟩ := nx_fr x (frs l ++ r) hx.1
    have hne : nxB (frB x ++ (frs l ++ r)) ≠ [] := by rw [h2]; intro h; exact hx.2 (by rw [h]; rfl)
    rw [frs_cons, List.append_assoc, logF_ok h1 hne, h2, h3, ih (fun y hy => h y (by simp [hy]))]
    rfl
theorem chL_le {bs x : List UInt8} (h : x ∈ chL bs) : x.length ≤ 4096 ∧ x.length ≠ 0 := by
  induction bs using chL.induct with
  | case1 => rw [chL_nil] at h; cases h
  | case2 bs hne ih =>
    rw [chL_cons hne] at h
    rcases List.mem_cons.1 h with rfl | h
    · have : bs.length ≠ 0 := fun e => hne (List.length_eq_zero_iff.1 e)
      rw [List.length_take]; omega
    · exact ih h
theorem chL_full (bs : List UInt8) : ∀ i, i + 1 < (chL bs).length → ((chL bs).getD i []).length = 4096 := by
  induction bs using chL.induct with
  | case1 => intro i h; rw [chL_nil] at h; simp at h
  | case2 bs hne ih =>
    intro i h
    rw [chL_cons hne] at h ⊢
    rw [List.length_cons] at h
    cases i with
    | zero =>
      have h2 : (chL (bs.drop 4096)).length ≠ 0 := by omega
      have h3 : bs.drop 4096 ≠ [] := fun e => h2 (by rw [e, chL_nil]; rfl)
      have h4 : (bs.drop 4096).length ≠ 0 := fun e => h3 (List.length_eq_zero_iff.1 e)
      rw [List.length_drop] at h4
      show (bs.take 4096).length = 4096
      rw [List.length_take]; omega
    | succ i => exact ih i (by omega)
theorem stP_frs (s : List UInt8) : stP s = frs (chL s ++ [[]]) := by
  unfold stP packF frs
  rw [List.map_append]; rfl
theorem allF_st (s r : List UInt8) : allF (stP s ++ r) = chL s ++ [[]] ++ allF r := by
  rw [stP_frs]
  exact allF_fr fun x hx => by
    rcases List.mem_append.1 hx with hx | hx
    · exact (chL_le hx).1
    · rw [List.mem_singleton.1 hx]; simp
theorem unP_st (s : List UInt8) : unP (stP s) = some s := by
  have h0 := allF_st s []
  rw [List.append_nil, allF_no nxE_nil, List.append_nil] at h0
  unfold unP
  rw [h0]
  have hlen : (chL s ++ [[]]).length = (chL s).length + 1 := by simp
  unfold unL
  rw [if_pos]
  · rw [hlen, Nat.add_sub_cancel, List.take_left' rfl, chL_flat]
  · refine ⟨by rw [stP_frs, frs_len], by simp, ?_, fun i hi => ?_⟩
    · rw [hlen, Nat.add_sub_cancel, List.getD_eq_getElem?_getD, List.getElem?_append_right (Nat.le_refl _), Nat.sub_self]; rfl
    · rw [hlen, Nat.add_sub_cancel] at hi
      rw [hlen, List.getD_eq_getElem?_getD, List.getElem?_append_left hi, ← List.getD_eq_getElem?_getD]
      have hm : (chL s).getD i [] ∈ chL s := by
        rw [List.getD_eq_getElem?_getD, List.getElem?_eq_getElem hi]; exact List.getElem_mem hi
      have h1 := chL_le hm
      unfold okU
      rw [decide_eq_false h1.2]
      by_cases hi2 : i + 1 < (chL s).length
      · have h2 := chL_full s i hi2
        rw [h2]; simp
      · have : decide (i + 2 < (chL s).length + 1) = false := decide_eq_false (by omega)
        rw [this]; simp
end Go.Proofs.YtkleenllkjodoaaGreatDoor
namespace Go.Proofs.YtkleenllkjodoaaGreatDoor
open Go Go.SX
theorem lkL_cons {α : Type} (x y : List UInt8) (a : α) (m : List (List UInt8 × α)) : lkL ((x, a) :: m) y = if x = y then some a else lkL m y := by
  unfold lkL
  rw [List.find?_cons]
  by_cases h : x = y
  · simp [h]
  · simp [h]
theorem delL_cons {α : Type} (x y : List UInt8) (a : α) (m : List (List UInt8 × α)) : delL ((x, a) :: m) y = if x = y then delL m y else (x, a) :: delL m y := by
  unfold delL
  rw [List.filter_cons]
  by_cases h : x = y
  · simp [h]
  · simp [h]
theorem delL_nil {α : Type} (y : List UInt8) : delL ([] : List (List UInt8 × α)) y = [] := rfl
theorem putL_cons_ne {α : Type} (x y : List UInt8) (a b : α) (m : List (List UInt8 × α)) (h : x ≠ y) : putL ((x, a) :: m) y b = (x, a) :: putL m y b := by
  unfold putL
  rw [List.any_cons, decide_eq_false h, Bool.false_or, List.map_cons, if_neg h]
  split <;> rfl
theorem putL_cons_eq {α : Type} (x : List UInt8) (a b : α) (m : List (List UInt8 × α)) (h : ∀ u ∈ m, u.1 ≠ x) : putL ((x, a) :: m) x b = (x, b) :: m := putL_mid (p := []) (by simp) h
theorem nm_ne (a b : Nat) : nm 99 a ≠ nm 108 b := fun h => absurd (List.cons.inj h).1 (by decide)
theorem nm_ne' (a b : Nat) : nm 108 a ≠ nm 99 b := fun h => absurd (List.cons.inj h).1 (by decide)
theorem nm_t (a : Nat) : nm 99 a ≠ tN := fun h => absurd (List.cons.inj h).1 (by decide)
theorem nm_t' (a : Nat) : nm 108 a ≠ tN := fun h => absurd (List.cons.inj h).1 (by decide)
theorem t_nm (a : Nat) : tN ≠ nm 99 a := fun h => absurd (List.cons.inj h).1 (by decide)
theorem t_nm' (a : Nat) : tN ≠ nm 108 a := fun h => absurd (List.cons.inj h).1 (by decide)
structure live (d : DK) : Prop where
  l : d.left = -1
  d : d.down = false
theorem live.sp {d : DK} (h : live d) : spendB d = true := by unfold spendB; rw [h.d, h.l]; rfl
theorem live.sd {d : DK} (h : live d) : spendD d = d := by
  unfold spendD
  rw [if_pos h.sp, h.l]
  obtain ⟨l, dn, r, fs⟩ := d
  have := h.l
  dsimp only at this
  subst this
  rfl
def dJ (room : Int) (n : Nat) (s : List UInt8) (lg : Option (List UInt8 × Nat)) : DK :=
  ⟨-1, false, room, (nm 99 n, stP s, (stP s).length) :: (match lg with | none => [] | some v => [(nm 108 n, v)])⟩
theorem dJ_live (room : Int) (n : Nat) (s : List UInt8) (lg : Option (List UInt8 × Nat)) : live (dJ room n s lg) := ⟨rfl, rfl⟩
theorem D0_live (room : Int) : live (D0 room) := ⟨rfl, rfl⟩
theorem wr_live {d : DK} (h : live d) (b : List UInt8) : wrE d b = if d.room < usedD d.fs + b.length then 8 else 0 := by
  unfold wrE; rw [h.sp, h.sd, if_neg (by decide)]; rfl
theorem fmD_live {d : DK} (h : live d) (n : List UInt8) : live (fmD d n) := ⟨h.l, h.d⟩
theorem wrS_live {d : DK} (h : live d) {n b : List UInt8} (he : wrE d b = 0) : wrS d n b = wrD d n b := by unfold wrS; rw [if_pos he, h.sd]
theorem fmE_live {d : DK} (h : live d) {n : List UInt8} (hh : hasD d n) : fmE d n = 0 := by unfold fmE; rw [h.sp, if_neg (by decide), if_pos hh]
theorem fmS_live {d : DK} (h : live d) {n : List UInt8} (hh : hasD d n) : fmS d n = fmD d n := by unfold fmS; rw [fmE_live h hh, if_pos rfl, h.sd]
theorem swE_live {d : DK} (h : live d) : swE d = 0 := by unfold swE; rw [h.sp, if_neg (by decide)]
theorem swS_live {d : DK} (h : live d) (n m : List UInt8) : swS d n m = swD d n m := by unfold swS; rw [h.sp, if_neg (by decide), h.sd]
theorem drE_live {d : DK} (h : live d) (ns : List (List UInt8)) : drE d ns = 0 := by unfold drE; rw [h.sp, if_neg (by decide)]
theorem drS_live {d : DK} (h : live d) (ns : List (List UInt8)) : drS d ns = dropD d ns := by unfold drS; rw [h.sp, if_neg (by decide), h.sd]
def lgB (lg : Option (List UInt8 × Nat)) : List UInt8 := (lg.getD ([], 0)).1
def lgF (lg : Option (List UInt8 × Nat)) : Nat := (lg.getD ([], 0)).2
theorem dJ_used (room : Int) (n : Nat) (s : List UInt8) (lg : Option (List UInt8 × Nat)) : usedD (dJ room n s lg).fs = (stP s).length + (lgB lg).length := by
  cases lg <;> simp [dJ, usedD, lgB]
theorem dJ_key (room : Int) (n : Nat) (s : List UInt8) (lg : Option (List UInt8 × Nat)) : keysOK (dJ room n s lg).fs := by
  cases lg <;> simp [dJ, keysOK, nm_ne]
theorem dJ_len (room : Int) (n : Nat) (s : List UInt8) (lg : Option (List UInt8 × Nat)) : (dJ room n s lg).fs.length ≤ 2 := by
  cases lg <;> simp [dJ]
theorem lay_0 (room : Int) (s : List UInt8) : layE (D0 room) s = (if room < (stP s).length then 8 else 0) ∧ (¬ room < (stP s).length → layS (D0 room) s 0 = dJ room 0 s none) := by
  have h0 := D0_live room
  have hw : wrE (D0 room) (stP s) = if room < (stP s).length then 8 else 0 := by
    rw [wr_live h0]
    have : usedD (D0 room).fs = 0 := rfl
    rw [this]; simp [D0]
  by_cases hf : room < (stP s).length
  · refine ⟨?_, fun h => absurd hf h⟩
    unfold layE
    rw [hw, if_pos hf, if_pos (by decide)]
  · rw [if_neg hf] at hw
    have e1 : wrS (D0 room) tN (stP s) = ⟨-1, false, room, [(tN, stP s, 0)]⟩ := by rw [wrS_live h0 hw]; rfl
    have hl : live (⟨-1, false, room, [(tN, stP s, 0)]⟩ : DK) := ⟨rfl, rfl⟩
    have hh : hasD (⟨-1, false, room, [(tN, stP s, 0)]⟩ : DK) tN := by unfold hasD; rw [lkL_cons, if_pos rfl]; simp
    have e2 : fmS (⟨-1, false, room, [(tN, stP s, 0)]⟩ : DK) tN = ⟨-1, false, room, [(tN, stP s, (stP s).length)]⟩ := by
      rw [fmS_live hl hh]
      unfold fmD fileD
      dsimp only
      rw [lkL_cons, if_pos rfl, putL_cons_eq _ _ _ _ (by simp)]
      rfl
    have hl2 : live (⟨-1, false, room, [(tN, stP s, (stP s).length)]⟩ : DK) := ⟨rfl, rfl⟩
    refine ⟨?_, fun _ => ?_⟩
    · unfold layE
      rw [hw, if_neg (by decide), e1, fmE_live hl hh, if_neg (by decide), e2, swE_live hl2, if_neg hf]
    · unfold layS
      rw [hw, if_neg (by decide), e1, fmE_live hl hh, if_neg (by decide), e2, swS_live hl2]
      unfold swD fileD dJ
      dsimp only
      rw [lkL_cons, if_pos rfl, delL_cons, if_pos rfl, delL_nil]
      simp
end Go.Proofs.YtkleenllkjodoaaGreatDoor
