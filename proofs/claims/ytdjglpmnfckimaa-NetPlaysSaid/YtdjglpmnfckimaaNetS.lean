/- Both nets, nil or not: what each call answers. No condition. -/
import Derived.Test.YtdjglpmnfckimaaNetR
set_option linter.unusedVariables false
set_option linter.unusedSimpArgs false
namespace Go.Proofs.Ytdjglpmnfckimaa
open Go Go.SX
attribute [local irreducible] swp opsS thenS blockS retS CallsS St Ent YieldS anyS drawS
/-- Both nets' state: nodes, letters, who is split (the program's, the document's); none: both are nil. -/
abbrev DD := Option (Int × List Let × List Bool × List (Int × Int))
def nH (p : Option Addr) (d : DD) : HP := match d with
  | none => pureH (p = none)
  | some s => exH fun b : Nat => allH [pureH (p = some ⟨b, 0, none⟩), netH b s.1 s.2.1 s.2.2.1]
def xH (p : Option Addr) (d : DD) : HP := match d with
  | none => pureH (p = none)
  | some s => exH fun b : Nat => allH [pureH (p = some ⟨b, 0, none⟩), refH b s.1 s.2.1 s.2.2.2]
theorem nH_none {L : List HP} {p : Option Addr} (h : p = none) : Ent L (nH p none :: L) := Ent.shut_pure h
theorem xH_none {L : List HP} {p : Option Addr} (h : p = none) : Ent L (xH p none :: L) := Ent.shut_pure h
theorem nH_some {L : List HP} {b : Nat} {s : Int × List Let × List Bool × List (Int × Int)} : Ent (netH b s.1 s.2.1 s.2.2.1 :: L) (nH (some ⟨b, 0, none⟩) (some s) :: L) :=
  Ent.trans (Ent.shut_pure (φ := some (⟨b, 0, none⟩ : Addr) = some ⟨b, 0, none⟩) rfl) (Ent.trans (Ent.shut_all (L := [_, _])) (Ent.shut_ex (P := fun b' : Nat => allH [pureH (some (⟨b, 0, none⟩ : Addr) = some ⟨b', 0, none⟩), netH b' s.1 s.2.1 s.2.2.1]) b))
theorem xH_some {L : List HP} {b : Nat} {s : Int × List Let × List Bool × List (Int × Int)} : Ent (refH b s.1 s.2.1 s.2.2.2 :: L) (xH (some ⟨b, 0, none⟩) (some s) :: L) :=
  Ent.trans (Ent.shut_pure (φ := some (⟨b, 0, none⟩ : Addr) = some ⟨b, 0, none⟩) rfl) (Ent.trans (Ent.shut_all (L := [_, _])) (Ent.shut_ex (P := fun b' : Nat => allH [pureH (some (⟨b, 0, none⟩ : Addr) = some ⟨b', 0, none⟩), refH b' s.1 s.2.1 s.2.2.2]) b))
theorem calls_nH {g : FuncId} {args : List Value} {R : Value → List HP → Prop} {L : List HP} {p : Option Addr} {d : DD} (h0 : d = none → p = none → CallsS Try.prog g args L R)
    (h1 : ∀ b s, d = some s → p = some ⟨b, 0, none⟩ → CallsS Try.prog g args (netH b s.1 s.2.1 s.2.2.1 :: L) R) : CallsS Try.prog g args (nH p d :: L) R := by
  cases d with
  | none => exact CallsS.pure fun e => h0 rfl e
  | some s => exact CallsS.ex fun b => CallsS.all (CallsS.pure fun e => h1 b s rfl e)
theorem calls_xH {g : FuncId} {args : List Value} {R : Value → List HP → Prop} {L : List HP} {p : Option Addr} {d : DD} (h0 : d = none → p = none → CallsS Try.prog g args L R)
    (h1 : ∀ b s, d = some s → p = some ⟨b, 0, none⟩ → CallsS Try.prog g args (refH b s.1 s.2.1 s.2.2.2 :: L) R) : CallsS Try.prog g args (xH p d :: L) R := by
  cases d with
  | none => exact CallsS.pure fun e => h0 rfl e
  | some s => exact CallsS.ex fun b => CallsS.all (CallsS.pure fun e => h1 b s rfl e)
def agree (sp : List Bool) (ss : List (Int × Int)) : Prop := ∀ c d : Int, 0 ≤ c → 0 ≤ d → c < 16 → d < 16 → spAt sp c d = decide ((min c d, max c d) ∈ ss)
def okD (k : Nat) (d : DD) : Prop := ∀ s, d = some s → netOK s.1 s.2.1 s.2.2.1 ∧ s.2.1.length ≤ 4 * k ∧ s.2.2.2.length ≤ k ∧ agree s.2.2.1 s.2.2.2
def lsD : DD → List Let
  | none => []
  | some s => s.2.1
def opD (d : DD) (i : Int) : Bool := match d with
  | none => false
  | some s => openB s.2.1 s.2.2.1 i
theorem open_eq {n : Int} {ls : List Let} {sp : List Bool} {ss : List (Int × Int)} (h : netOK n ls sp) (ha : agree sp ss) (i : Int) : ropen ls ss i = openB ls sp i := by
  unfold ropen openB
  cases hl : ls[i.toNat]? with
  | none => rfl
  | some l =>
    obtain ⟨h1, h2, h3, h4, _⟩ := h.2.2.2.1 l (List.mem_of_getElem? hl)
    have := h.2.1
    simp only []
    rw [ha l.1 l.2.1 h1 h2 (by omega) (by omega)]
/-- What comes, and the error. -/
def tkD (d : DD) (i : Int) : Let × Int := match d with
  | none => ((0, 0, []), 6)
  | some s => if 0 ≤ i ∧ i < s.2.1.length then (if openB s.2.1 s.2.2.1 i then ((s.2.1[i.toNat]?).getD (0, 0, []), 0) else ((0, 0, []), 10)) else ((0, 0, []), 1)
def erD (d : DD) (i : Int) : DD := d.map fun s => (s.1, s.2.1.eraseIdx i.toNat, s.2.2)
def dpE (d : DD) (i : Int) : Int := match d with
  | none => 6
  | some s => if 0 ≤ i ∧ i < s.2.1.length then 0 else 1
def dpD (d : DD) (i : Int) : DD := if dpE d i = 0 then erD d i else d
def tkS (d : DD) (i : Int) : DD := if (tkD d i).2 = 0 then erD d i else d
def okP (n x y : Int) : Prop := 0 ≤ x ∧ 0 ≤ y ∧ x < n ∧ y < n ∧ x ≠ y
instance {n x y : Int} : Decidable (okP n x y) := by unfold okP; infer_instance
def spE (d : DD) (x y : Int) : Int := match d with
  | none => 6
  | some s => if okP s.1 x y then 0 else 1
def spD (d : DD) (x y : Int) (v : Bool) : DD := d.map fun s => if okP s.1 x y then (s.1, s.2.1, (s.2.2.1.set (x.toNat * 16 + y.toNat) v).set (y.toNat * 16 + x.toNat) v, splitR s.2.2.2 x y v) else s
def hlD (d : DD) : DD := d.map fun s => (s.1, s.2.1, List.replicate 256 false, [])
def poE (d : DD) (ws : List Let) : Int := match d with
  | none => 0
  | some s => (ws.filter fun l => decide (okP s.1 l.1 l.2.1) && decide (l.2.2.length ≤ 4102)).length
def poD (d : DD) (ws : List Let) : DD := d.map fun s => (s.1, s.2.1 ++ ws.filter fun l => decide (okP s.1 l.1 l.2.1) && decide (l.2.2.length ≤ 4102), s.2.2)
theorem int_nat {i : Int} {n : Nat} (h : 0 ≤ i ∧ i < n) : ∃ k : Nat, i = k ∧ k < n := ⟨i.toNat, by omega, by omega⟩
theorem nLen_spec (p : Option Addr) (d : DD) (L : List HP) : CallsS Try.prog 12 [.pointer p] (nH p d :: L) (fun v L' => v = .int .i64 (lsD d).length ∧ L' = nH p d :: L) := by
  refine calls_nH (fun e0 e => ?_) (fun b s e0 e => ?_)
  · subst e0 e
    refine CallsS.of_body Try.func12 rfl rfl rfl ?_
    repeat (first | (refine GQ.y ?_; refine Q.y ?_) | refine N.tn ?_ | refine N.tr ?_ | refine N.te ?_ | refine N.bn ?_ | refine N.br ?_ | refine N.be ?_ | refine N.bx rfl ?_ | refine swp_seq ?_ | refine swp_region ?_ | refine opsS_nil ?_ | refine swp_ret ?_ | refine swp_skip ?_ | refine swp_exit ?_ | refine swp_block ?_ | refine swp_cond_true rfl ?_ | refine swp_cond_false rfl ?_ | (refine GQ.g ?_; refine Q.gq ?_) | (refine GQ.s ?_; refine Q.st ?_) | (refine GQ.g ?_; refine Q.gd ?_) | refine Q.ct rfl ?_ | refine Q.cf rfl ?_ | (refine GQ.a ?_; refine Q.al (fun b1 => ?_)))
    exact N.r1 (RV.tmp rfl RV.nil) (nH_none rfl) ⟨rfl, rfl⟩
  · subst e0 e
    exact (Len_spec _ _ _ _ _).weak (Ent.refl _) (by rintro _ _ ⟨rfl, rfl⟩; exact ⟨_, nH_some, rfl, rfl⟩)
theorem nOpen_spec (p : Option Addr) (d : DD) (i : Int) (k : Nat) (L : List HP) (hk : okD k d) : CallsS Try.prog 15 [.pointer p, .int .i64 i] (nH p d :: L) (fun v L' => v = .bool (opD d i) ∧ L' = nH p d :: L) := by
  refine calls_nH (fun e0 e => ?_) (fun b s e0 e => ?_)
  · subst e0 e
    refine CallsS.of_body Try.func15 rfl rfl rfl ?_
    repeat (first | (refine GQ.y ?_; refine Q.y ?_) | refine N.tn ?_ | refine N.tr ?_ | refine N.te ?_ | refine N.bn ?_ | refine N.br ?_ | refine N.be ?_ | refine N.bx rfl ?_ | refine swp_seq ?_ | refine swp_region ?_ | refine opsS_nil ?_ | refine swp_ret ?_ | refine swp_skip ?_ | refine swp_exit ?_ | refine swp_block ?_ | refine swp_cond_true rfl ?_ | refine swp_cond_false rfl ?_ | (refine GQ.g ?_; refine Q.gq ?_) | (refine GQ.s ?_; refine Q.st ?_) | (refine GQ.g ?_; refine Q.gd ?_) | refine Q.ct rfl ?_ | refine Q.cf rfl ?_ | (refine GQ.a ?_; refine Q.al (fun b1 => ?_)))
    refine Q.dgo [] [] [] [0, 1, 2, 3, 4, 5, 6, 7, 8, 9, 10, 11, 12, 13, 14, 15, 16, 17, 18, 19, 20, 21, 22, 23, 24, 25, 26, 27, 28, 29, 30, 31, 32, 33, 34, 35, 36, 37, 38, 39, 40] ?_
    repeat (first | refine D.endA ?_ | refine Q.dy rfl rfl rfl ?_ | refine Q.dp rfl rfl rfl ?_ | refine D.end_ ?_ | refine Q.endH ?_ | (refine D.e rfl rfl rfl ?_; (first | refine S.gskip1 rfl ?_ | refine S.gskip rfl ?_ | refine S.y (Y.gskipU rfl) ?_); refine opsS_nil ?_; refine N.tn ?_) | refine Q.dT rfl rfl rfl ?_ | refine Q.dF rfl rfl rfl ?_)
    repeat (first | (refine GQ.y ?_; refine Q.y ?_) | refine N.tn ?_ | refine N.tr ?_ | refine N.te ?_ | refine N.bn ?_ | refine N.br ?_ | refine N.be ?_ | refine N.bx rfl ?_ | refine swp_seq ?_ | refine swp_region ?_ | refine opsS_nil ?_ | refine swp_ret ?_ | refine swp_skip ?_ | refine swp_exit ?_ | refine swp_block ?_ | refine swp_cond_true rfl ?_ | refine swp_cond_false rfl ?_ | (refine GQ.g ?_; refine Q.gq ?_) | (refine GQ.s ?_; refine Q.st ?_) | (refine GQ.g ?_; refine Q.gd ?_) | refine Q.ct rfl ?_ | refine Q.cf rfl ?_ | (refine GQ.a ?_; refine Q.al (fun b1 => ?_)))
    exact N.r1 (RV.tmp rfl RV.nil) (nH_none rfl) ⟨rfl, rfl⟩
  · subst e0 e
    exact (Open_spec _ _ _ _ _ _ (hk s rfl).1).weak (Ent.refl _) (by rintro _ _ ⟨rfl, rfl⟩; exact ⟨_, nH_some, rfl, rfl⟩)
theorem xOpen_spec (p : Option Addr) (d : DD) (i : Int) (k : Nat) (L : List HP) (hk : okD k d) (hk2 : k ≤ 100000) : CallsS Try.prog 28 [.pointer p, .int .i64 i] (xH p d :: L) (fun v L' => v = .bool (opD d i) ∧ L' = xH p d :: L) := by
  refine calls_xH (fun e0 e => ?_) (fun b s e0 e => ?_)
  · subst e0 e
    refine CallsS.of_body Try.func28 rfl rfl rfl ?_
    repeat (first | (refine GQ.y ?_; refine Q.y ?_) | refine N.tn ?_ | refine N.tr ?_ | refine N.te ?_ | refine N.bn ?_ | refine N.br ?_ | refine N.be ?_ | refine N.bx rfl ?_ | refine swp_seq ?_ | refine swp_region ?_ | refine opsS_nil ?_ | refine swp_ret ?_ | refine swp_skip ?_ | refine swp_exit ?_ | refine swp_block ?_ | refine swp_cond_true rfl ?_ | refine swp_cond_false rfl ?_ | (refine GQ.g ?_; refine Q.gq ?_) | (refine GQ.s ?_; refine Q.st ?_) | (refine GQ.g ?_; refine Q.gd ?_) | refine Q.ct rfl ?_ | refine Q.cf rfl ?_ | (refine GQ.a ?_; refine Q.al (fun b1 => ?_)))
    exact N.r1 (RV.tmp rfl RV.nil) (xH_none rfl) ⟨rfl, rfl⟩
  · subst e0 e
    have h := hk s rfl
    refine (ROpen_spec _ _ _ _ _ _ (by omega)).weak (Ent.refl _) ?_
    rintro _ _ ⟨rfl, rfl⟩
    rw [open_eq h.1 h.2.2.2]
    exact ⟨_, xH_some, rfl, rfl⟩
theorem nDrop_spec (p : Option Addr) (d : DD) (i : Int) (k : Nat) (L : List HP) (hk : okD k d) : CallsS Try.prog 14 [.pointer p, .int .i64 i] (nH p d :: L) (fun v L' => v = .int .i64 (dpE d i) ∧ L' = nH p (dpD d i) :: L) := by
  refine calls_nH (fun e0 e => ?_) (fun b s e0 e => ?_)
  · subst e0 e
    refine CallsS.of_body Try.func14 rfl rfl rfl ?_
    repeat (first | (refine GQ.y ?_; refine Q.y ?_) | refine N.tn ?_ | refine N.tr ?_ | refine N.te ?_ | refine N.bn ?_ | refine N.br ?_ | refine N.be ?_ | refine N.bx rfl ?_ | refine swp_seq ?_ | refine swp_region ?_ | refine opsS_nil ?_ | refine swp_ret ?_ | refine swp_skip ?_ | refine swp_exit ?_ | refine swp_block ?_ | refine swp_cond_true rfl ?_ | refine swp_cond_false rfl ?_ | (refine GQ.g ?_; refine Q.gq ?_) | (refine GQ.s ?_; refine Q.st ?_) | (refine GQ.g ?_; refine Q.gd ?_) | refine Q.ct rfl ?_ | refine Q.cf rfl ?_ | (refine GQ.a ?_; refine Q.al (fun b1 => ?_)))
    exact N.r1 (RV.tmp rfl RV.nil) (nH_none rfl) ⟨rfl, rfl⟩
  · subst e0 e
    by_cases hi : 0 ≤ i ∧ i < s.2.1.length
    · obtain ⟨j, rfl, hj⟩ := int_nat hi
      refine (Drop_ok _ _ _ _ j _ (hk s rfl).1 hj).weak (Ent.refl _) ?_
      rintro _ _ ⟨rfl, rfl⟩
      have e : dpE (some s) j = 0 := by simp only [dpE]; rw [if_pos hi]
      rw [dpD, e, if_pos rfl]
      exact ⟨_, nH_some (s := (s.1, s.2.1.eraseIdx j, s.2.2)), rfl, rfl⟩
    · refine (Drop_arg _ _ _ _ i _ hi).weak (Ent.refl _) ?_
      rintro _ _ ⟨rfl, rfl⟩
      have e : dpE (some s) i = 1 := by simp only [dpE]; rw [if_neg hi]
      rw [dpD, e, if_neg (by decide)]
      exact ⟨_, nH_some, rfl, rfl⟩
theorem xDrop_spec (p : Option Addr) (d : DD) (i : Int) (k : Nat) (L : List HP) (hk : okD k d) (hk2 : k ≤ 10000) : CallsS Try.prog 23 [.pointer p, .int .i64 i] (xH p d :: L) (fun v L' => v = .int .i64 (dpE d i) ∧ L' = xH p (dpD d i) :: L) := by
  refine calls_xH (fun e0 e => ?_) (fun b s e0 e => ?_)
  · subst e0 e
    refine CallsS.of_body Try.func23 rfl rfl rfl ?_
    repeat (first | (refine GQ.y ?_; refine Q.y ?_) | refine N.tn ?_ | refine N.tr ?_ | refine N.te ?_ | refine N.bn ?_ | refine N.br ?_ | refine N.be ?_ | refine N.bx rfl ?_ | refine swp_seq ?_ | refine swp_region ?_ | refine opsS_nil ?_ | refine swp_ret ?_ | refine swp_skip ?_ | refine swp_exit ?_ | refine swp_block ?_ | refine swp_cond_true rfl ?_ | refine swp_cond_false rfl ?_ | (refine GQ.g ?_; refine Q.gq ?_) | (refine GQ.s ?_; refine Q.st ?_) | (refine GQ.g ?_; refine Q.gd ?_) | refine Q.ct rfl ?_ | refine Q.cf rfl ?_ | (refine GQ.a ?_; refine Q.al (fun b1 => ?_)))
    exact N.r1 (RV.tmp rfl RV.nil) (xH_none rfl) ⟨rfl, rfl⟩
  · subst e0 e
    have h := hk s rfl
    by_cases hi : 0 ≤ i ∧ i < s.2.1.length
    · obtain ⟨j, rfl, hj⟩ := int_nat hi
      refine (RDrop_ok _ _ _ _ j _ hj (by omega)).weak (Ent.refl _) ?_
      rintro _ _ ⟨rfl, rfl⟩
      have e : dpE (some s) j = 0 := by simp only [dpE]; rw [if_pos hi]
      rw [dpD, e, if_pos rfl]
      exact ⟨_, xH_some (s := (s.1, s.2.1.eraseIdx j, s.2.2)), rfl, rfl⟩
    · refine (RDrop_arg _ _ _ _ i _ hi).weak (Ent.refl _) ?_
      rintro _ _ ⟨rfl, rfl⟩
      have e : dpE (some s) i = 1 := by simp only [dpE]; rw [if_neg hi]
      rw [dpD, e, if_neg (by decide)]
      exact ⟨_, xH_some, rfl, rfl⟩
theorem tk_none (i : Int) : tkD none i = ((0, 0, []), 6) := rfl
theorem tk_arg {s : Int × List Let × List Bool × List (Int × Int)} {i : Int} (hi : ¬ (0 ≤ i ∧ i < s.2.1.length)) : tkD (some s) i = ((0, 0, []), 1) := by simp only [tkD]; rw [if_neg hi]
theorem tk_state {s : Int × List Let × List Bool × List (Int × Int)} {i : Int} (hi : 0 ≤ i ∧ i < s.2.1.length) (ho : openB s.2.1 s.2.2.1 i = false) : tkD (some s) i = ((0, 0, []), 10) := by simp only [tkD]; rw [if_pos hi, ho]; rfl
theorem tk_ok {s : Int × List Let × List Bool × List (Int × Int)} {k : Nat} {l : Let} (hl : s.2.1[k]? = some l) (ho : openB s.2.1 s.2.2.1 k = true) : tkD (some s) k = (l, 0) := by
  have hk : k < s.2.1.length := (List.getElem?_eq_some_iff.1 hl).1
  simp only [tkD]; rw [if_pos (by omega), ho]; simp [hl]
theorem nCopy_spec (p : Option Addr) (d : DD) (i : Int) (k : Nat) (L : List HP) (hk : okD k d) : CallsS Try.prog 16 [.pointer p, .int .i64 i] (nH p d :: L)
    (fun v L' => ∃ x : LV, x.abs = (tkD d i).1 ∧ v = .tuple #[.agg x.cells.toArray, .int .i64 (tkD d i).2] ∧ L' = slO 5 1 x.a x.body.length x.c (x.body.map B) :: nH p d :: L) := by
  refine calls_nH (fun e0 e => ?_) (fun b s e0 e => ?_)
  · subst e0 e
    refine CallsS.of_body Try.func16 rfl rfl rfl ?_
    repeat (first | (refine GQ.y ?_; refine Q.y ?_) | refine N.tn ?_ | refine N.tr ?_ | refine N.te ?_ | refine N.bn ?_ | refine N.br ?_ | refine N.be ?_ | refine N.bx rfl ?_ | refine swp_seq ?_ | refine swp_region ?_ | refine opsS_nil ?_ | refine swp_ret ?_ | refine swp_skip ?_ | refine swp_exit ?_ | refine swp_block ?_ | refine swp_cond_true rfl ?_ | refine swp_cond_false rfl ?_ | (refine GQ.g ?_; refine Q.gq ?_) | (refine GQ.s ?_; refine Q.st ?_) | (refine GQ.g ?_; refine Q.gd ?_) | refine Q.ct rfl ?_ | refine Q.cf rfl ?_ | (refine GQ.a ?_; refine Q.al (fun b1 => ?_)))
    refine N.r2 (by apply RV.cellN; rfl; exact RdC.row; rfl; exact RV.tmp rfl RV.nil) ?_ ⟨lvZ, rfl, rfl, rfl⟩
    exact Ent.drop ((nH_none rfl).trans slO_nil)
  · subst e0 e
    by_cases hi : 0 ≤ i ∧ i < s.2.1.length
    · obtain ⟨j, rfl, hj⟩ := int_nat hi
      cases ho : openB s.2.1 s.2.2.1 j with
      | false =>
        refine (Copy_state _ _ _ _ j _ (hk s rfl).1 hj ho).weak (Ent.refl _) ?_
        rintro _ _ ⟨rfl, rfl⟩
        rw [tk_state hi ho]
        exact ⟨_, nH_some.trans slO_nil, lvZ, rfl, rfl, rfl⟩
      | true =>
        obtain ⟨l, hl⟩ := mem_get hj
        refine (Copy_ok _ _ _ _ j l _ (hk s rfl).1 hl ho).weak (Ent.refl _) ?_
        rintro _ _ ⟨a, c, rfl, rfl⟩
        rw [tk_ok hl ho]
        exact ⟨_, nH_some.cons, ⟨l.1, l.2.1, a, c, l.2.2⟩, rfl, rfl, rfl⟩
    · refine (Copy_arg _ _ _ _ i _ hi).weak (Ent.refl _) ?_
      rintro _ _ ⟨rfl, rfl⟩
      rw [tk_arg hi]
      exact ⟨_, nH_some.trans slO_nil, lvZ, rfl, rfl, rfl⟩
theorem nTake_spec (p : Option Addr) (d : DD) (i : Int) (k : Nat) (L : List HP) (hk : okD k d) : CallsS Try.prog 13 [.pointer p, .int .i64 i] (nH p d :: L)
    (fun v L' => ∃ x : LV, x.abs = (tkD d i).1 ∧ v = .tuple #[.agg x.cells.toArray, .int .i64 (tkD d i).2] ∧ L' = slO 5 1 x.a x.body.length x.c (x.body.map B) :: nH p (tkS d i) :: L) := by
  refine calls_nH (fun e0 e => ?_) (fun b s e0 e => ?_)
  · subst e0 e
    refine CallsS.of_body Try.func13 rfl rfl rfl ?_
    repeat (first | (refine GQ.y ?_; refine Q.y ?_) | refine N.tn ?_ | refine N.tr ?_ | refine N.te ?_ | refine N.bn ?_ | refine N.br ?_ | refine N.be ?_ | refine N.bx rfl ?_ | refine swp_seq ?_ | refine swp_region ?_ | refine opsS_nil ?_ | refine swp_ret ?_ | refine swp_skip ?_ | refine swp_exit ?_ | refine swp_block ?_ | refine swp_cond_true rfl ?_ | refine swp_cond_false rfl ?_ | (refine GQ.g ?_; refine Q.gq ?_) | (refine GQ.s ?_; refine Q.st ?_) | (refine GQ.g ?_; refine Q.gd ?_) | refine Q.ct rfl ?_ | refine Q.cf rfl ?_ | (refine GQ.a ?_; refine Q.al (fun b1 => ?_)))
    refine opsS_ent (nH_none (p := none) rfl) ?_
    refine S.cr rfl (nCopy_spec none none i 0 _ (fun s h => by cases h)) ?_
    rintro _ _ ⟨x, hx, rfl, rfl⟩
    rw [tk_none]
    repeat (first | (refine GQ.y ?_; refine Q.y ?_) | refine N.tn ?_ | refine N.tr ?_ | refine N.te ?_ | refine N.bn ?_ | refine N.br ?_ | refine N.be ?_ | refine N.bx rfl ?_ | refine swp_seq ?_ | refine swp_region ?_ | refine opsS_nil ?_ | refine swp_ret ?_ | refine swp_skip ?_ | refine swp_exit ?_ | refine swp_block ?_ | refine swp_cond_true rfl ?_ | refine swp_cond_false rfl ?_ | (refine GQ.g ?_; refine Q.gq ?_) | (refine GQ.s ?_; refine Q.st ?_) | (refine GQ.g ?_; refine Q.gd ?_) | refine Q.ct rfl ?_ | refine Q.cf rfl ?_ | (refine GQ.a ?_; refine Q.al (fun b1 => ?_)))
    refine N.r2 (by apply RV.cellN; rfl; exact RdC.row; rfl; exact RV.tmp rfl RV.nil) ?_ ⟨x, hx, rfl, rfl⟩
    rw [show tkS none i = none from rfl]
    (try dsimp only); repeat (first | exact Ent.refl _ | exact Ent.nil | refine Ent.pick ?_ | refine Ent.nilS ?_ | refine Ent.nilM ?_ | refine Ent.drop ?_)
  · subst e0 e
    by_cases hi : 0 ≤ i ∧ i < s.2.1.length
    · obtain ⟨j, rfl, hj⟩ := int_nat hi
      cases ho : openB s.2.1 s.2.2.1 j with
      | false =>
        refine (Take_state _ _ _ _ j _ (hk s rfl).1 hj ho).weak (Ent.refl _) ?_
        rintro _ _ ⟨rfl, rfl⟩
        have e := tk_state hi ho
        rw [tkS, e, if_neg (by decide)]
        exact ⟨_, nH_some.trans slO_nil, lvZ, rfl, rfl, rfl⟩
      | true =>
        obtain ⟨l, hl⟩ := mem_get hj
        refine (Take_ok _ _ _ _ j l _ (hk s rfl).1 hl ho).weak (Ent.refl _) ?_
        rintro _ _ ⟨a, c, rfl, rfl⟩
        have e := tk_ok hl ho
        rw [tkS, e, if_pos rfl]
        exact ⟨_, (nH_some (s := (s.1, s.2.1.eraseIdx j, s.2.2))).cons, ⟨l.1, l.2.1, a, c, l.2.2⟩, rfl, rfl, rfl⟩
    · refine (Take_arg _ _ _ _ i _ hi).weak (Ent.refl _) ?_
      rintro _ _ ⟨rfl, rfl⟩
      have e := tk_arg (s := s) hi
      rw [tkS, e, if_neg (by decide)]
      exact ⟨_, nH_some.trans slO_nil, lvZ, rfl, rfl, rfl⟩
theorem roM_none {L : List HP} : Ent L (roM (fun _ => none) :: L) := Ent.nilM (Ent.refl _)
theorem xTake_spec (p : Option Addr) (d : DD) (i : Int) (stays : Bool) (k : Nat) (L : List HP) (hk : okD k d) (hk2 : k ≤ 10000) : CallsS Try.prog 22 [.pointer p, .int .i64 i, .bool stays] (xH p d :: L)
    (fun v L' => ∃ (x : LV) (M : Nat → Option Obj), x.abs = (tkD d i).1 ∧ v = .tuple #[.agg x.cells.toArray, .int .i64 (tkD d i).2] ∧ SlM M x.a x.body.length 1 (x.body.map B) ∧ L' = roM M :: xH p (if stays then d else tkS d i) :: L) := by
  refine calls_xH (fun e0 e => ?_) (fun b s e0 e => ?_)
  · subst e0 e
    refine CallsS.of_body Try.func22 rfl rfl rfl ?_
    repeat (first | (refine GQ.y ?_; refine Q.y ?_) | refine N.tn ?_ | refine N.tr ?_ | refine N.te ?_ | refine N.bn ?_ | refine N.br ?_ | refine N.be ?_ | refine N.bx rfl ?_ | refine swp_seq ?_ | refine swp_region ?_ | refine opsS_nil ?_ | refine swp_ret ?_ | refine swp_skip ?_ | refine swp_exit ?_ | refine swp_block ?_ | refine swp_cond_true rfl ?_ | refine swp_cond_false rfl ?_ | (refine GQ.g ?_; refine Q.gq ?_) | (refine GQ.s ?_; refine Q.st ?_) | (refine GQ.g ?_; refine Q.gd ?_) | refine Q.ct rfl ?_ | refine Q.cf rfl ?_ | (refine GQ.a ?_; refine Q.al (fun b1 => ?_)))
    refine N.r2 (by apply RV.cellN; rfl; exact RdC.row; rfl; exact RV.tmp rfl RV.nil) ?_ ⟨lvZ, fun _ => none, rfl, rfl, SlM.nil, rfl⟩
    exact Ent.drop ((xH_none rfl).trans (by cases stays <;> exact roM_none))
  · subst e0 e
    have h := hk s rfl
    by_cases hi : 0 ≤ i ∧ i < s.2.1.length
    · obtain ⟨j, rfl, hj⟩ := int_nat hi
      have hoe := open_eq h.1 h.2.2.2 (j : Int)
      cases ho : openB s.2.1 s.2.2.1 j with
      | false =>
        refine (RTake_state _ _ _ _ j stays _ hj (by omega) (by omega) (by rw [hoe, ho])).weak (Ent.refl _) ?_
        rintro _ _ ⟨rfl, rfl⟩
        have e := tk_state hi ho
        rw [tkS, e, if_neg (show ¬ (10 : Int) = 0 by decide)]
        exact ⟨_, xH_some.trans roM_none, lvZ, fun _ => none, rfl, rfl, SlM.nil, by cases stays <;> rfl⟩
      | true =>
        obtain ⟨l, hl⟩ := mem_get hj
        refine (RTake_ok _ _ _ _ j l stays _ hl (by omega) (by omega) (by rw [hoe, ho])).weak (Ent.refl _) ?_
        rintro _ _ ⟨x, M, hx, rfl, hM, rfl⟩
        have e := tk_ok hl ho
        rw [tkS, e, if_pos rfl]
        cases stays with
        | true => exact ⟨_, (xH_some (s := s)).cons, x, M, hx, rfl, hM, rfl⟩
        | false => exact ⟨_, (xH_some (s := (s.1, s.2.1.eraseIdx j, s.2.2))).cons, x, M, hx, rfl, hM, rfl⟩
    · refine (RTake_arg _ _ _ _ i stays _ hi).weak (Ent.refl _) ?_
      rintro _ _ ⟨rfl, rfl⟩
      have e := tk_arg (s := s) hi
      rw [tkS, e, if_neg (show ¬ (1 : Int) = 0 by decide)]
      exact ⟨_, xH_some.trans roM_none, lvZ, fun _ => none, rfl, rfl, SlM.nil, by cases stays <;> rfl⟩
theorem nSplit_spec (p : Option Addr) (d : DD) (x y : Int) (v : Bool) (k : Nat) (L : List HP) (hk : okD k d) : CallsS Try.prog 10 [.pointer p, .int .i64 x, .int .i64 y, .bool v] (nH p d :: L)
    (fun r L' => r = .int .i64 (spE d x y) ∧ L' = nH p (spD d x y v) :: L) := by
  refine calls_nH (fun e0 e => ?_) (fun b s e0 e => ?_)
  · subst e0 e
    refine CallsS.of_body Try.func10 rfl rfl rfl ?_
    repeat (first | (refine GQ.y ?_; refine Q.y ?_) | refine N.tn ?_ | refine N.tr ?_ | refine N.te ?_ | refine N.bn ?_ | refine N.br ?_ | refine N.be ?_ | refine N.bx rfl ?_ | refine swp_seq ?_ | refine swp_region ?_ | refine opsS_nil ?_ | refine swp_ret ?_ | refine swp_skip ?_ | refine swp_exit ?_ | refine swp_block ?_ | refine swp_cond_true rfl ?_ | refine swp_cond_false rfl ?_ | (refine GQ.g ?_; refine Q.gq ?_) | (refine GQ.s ?_; refine Q.st ?_) | (refine GQ.g ?_; refine Q.gd ?_) | refine Q.ct rfl ?_ | refine Q.cf rfl ?_ | (refine GQ.a ?_; refine Q.al (fun b1 => ?_)))
    exact N.r1 (RV.tmp rfl RV.nil) (nH_none rfl) ⟨rfl, rfl⟩
  · subst e0 e
    by_cases h : okP s.1 x y
    · have h' := h
      obtain ⟨h1, h2, h3, h4, h5⟩ := h'
      obtain ⟨x', rfl⟩ := Int.eq_ofNat_of_zero_le h1
      obtain ⟨y', rfl⟩ := Int.eq_ofNat_of_zero_le h2
      refine (Split_ok _ _ _ _ x' y' v _ (hk s rfl).1 h3 h4 (by omega)).weak (Ent.refl _) ?_
      rintro _ _ ⟨rfl, rfl⟩
      have e1 : spE (some s) x' y' = 0 := by simp only [spE]; rw [if_pos h]
      have e2 : spD (some s) x' y' v = some (s.1, s.2.1, (s.2.2.1.set (x' * 16 + y') v).set (y' * 16 + x') v, splitR s.2.2.2 x' y' v) := by simp only [spD, Option.map_some]; rw [if_pos h]; rfl
      rw [e1, e2]
      exact ⟨_, nH_some (s := (s.1, s.2.1, (s.2.2.1.set (x' * 16 + y') v).set (y' * 16 + x') v, splitR s.2.2.2 x' y' v)), rfl, rfl⟩
    · refine (Split_bad _ _ _ _ x y v _ h).weak (Ent.refl _) ?_
      rintro _ _ ⟨rfl, rfl⟩
      have e1 : spE (some s) x y = 1 := by simp only [spE]; rw [if_neg h]
      have e2 : spD (some s) x y v = some s := by simp only [spD, Option.map_some]; rw [if_neg h]
      rw [e1, e2]
      exact ⟨_, nH_some, rfl, rfl⟩
theorem xSplit_spec (p : Option Addr) (d : DD) (x y : Int) (v : Bool) (k : Nat) (L : List HP) (hk : okD k d) (hk2 : k ≤ 10000) : CallsS Try.prog 24 [.pointer p, .int .i64 x, .int .i64 y, .bool v] (xH p d :: L)
    (fun r L' => r = .int .i64 (spE d x y) ∧ L' = xH p (spD d x y v) :: L) := by
  refine calls_xH (fun e0 e => ?_) (fun b s e0 e => ?_)
  · subst e0 e
    refine CallsS.of_body Try.func24 rfl rfl rfl ?_
    repeat (first | (refine GQ.y ?_; refine Q.y ?_) | refine N.tn ?_ | refine N.tr ?_ | refine N.te ?_ | refine N.bn ?_ | refine N.br ?_ | refine N.be ?_ | refine N.bx rfl ?_ | refine swp_seq ?_ | refine swp_region ?_ | refine opsS_nil ?_ | refine swp_ret ?_ | refine swp_skip ?_ | refine swp_exit ?_ | refine swp_block ?_ | refine swp_cond_true rfl ?_ | refine swp_cond_false rfl ?_ | (refine GQ.g ?_; refine Q.gq ?_) | (refine GQ.s ?_; refine Q.st ?_) | (refine GQ.g ?_; refine Q.gd ?_) | refine Q.ct rfl ?_ | refine Q.cf rfl ?_ | (refine GQ.a ?_; refine Q.al (fun b1 => ?_)))
    exact N.r1 (RV.tmp rfl RV.nil) (xH_none rfl) ⟨rfl, rfl⟩
  · subst e0 e
    have hs := hk s rfl
    by_cases h : okP s.1 x y
    · refine (RSplit_ok _ _ _ _ x y v _ h (by omega)).weak (Ent.refl _) ?_
      rintro _ _ ⟨rfl, rfl⟩
      have e1 : spE (some s) x y = 0 := by simp only [spE]; rw [if_pos h]
      have e2 : spD (some s) x y v = some (s.1, s.2.1, (s.2.2.1.set (x.toNat * 16 + y.toNat) v).set (y.toNat * 16 + x.toNat) v, splitR s.2.2.2 x y v) := by simp only [spD, Option.map_some]; rw [if_pos h]
      rw [e1, e2]
      exact ⟨_, xH_some (s := (s.1, s.2.1, (s.2.2.1.set (x.toNat * 16 + y.toNat) v).set (y.toNat * 16 + x.toNat) v, splitR s.2.2.2 x y v)), rfl, rfl⟩
    · refine (RSplit_bad _ _ _ _ x y v _ h).weak (Ent.refl _) ?_
      rintro _ _ ⟨rfl, rfl⟩
      have e1 : spE (some s) x y = 1 := by simp only [spE]; rw [if_neg h]
      have e2 : spD (some s) x y v = some s := by simp only [spD, Option.map_some]; rw [if_neg h]
      rw [e1, e2]
      exact ⟨_, xH_some, rfl, rfl⟩
theorem nHeal_spec (p : Option Addr) (d : DD) (k : Nat) (L : List HP) (hk : okD k d) : CallsS Try.prog 17 [.pointer p] (nH p d :: L) (fun r L' => L' = nH p (hlD d) :: L) := by
  refine calls_nH (fun e0 e => ?_) (fun b s e0 e => ?_)
  · subst e0 e
    refine CallsS.of_body Try.func17 rfl rfl rfl ?_
    repeat (first | (refine GQ.y ?_; refine Q.y ?_) | refine N.tn ?_ | refine N.tr ?_ | refine N.te ?_ | refine N.bn ?_ | refine N.br ?_ | refine N.be ?_ | refine N.bx rfl ?_ | refine swp_seq ?_ | refine swp_region ?_ | refine opsS_nil ?_ | refine swp_ret ?_ | refine swp_skip ?_ | refine swp_exit ?_ | refine swp_block ?_ | refine swp_cond_true rfl ?_ | refine swp_cond_false rfl ?_ | (refine GQ.g ?_; refine Q.gq ?_) | (refine GQ.s ?_; refine Q.st ?_) | (refine GQ.g ?_; refine Q.gd ?_) | refine Q.ct rfl ?_ | refine Q.cf rfl ?_ | (refine GQ.a ?_; refine Q.al (fun b1 => ?_)))
    exact N.n0 RV.nil (nH_none rfl) rfl
  · subst e0 e
    refine (Heal_spec _ _ _ _ _ (hk s rfl).1.2.2.1).weak (Ent.refl _) ?_
    rintro _ _ rfl
    exact ⟨_, nH_some (s := (s.1, s.2.1, List.replicate 256 false, [])), rfl⟩
theorem okL_eq (n : Int) (ws : List LV) : (ws.filter (okL n)).map LV.abs = (ws.map LV.abs).filter fun l => decide (okP n l.1 l.2.1) && decide (l.2.2.length ≤ 4102) := by
  rw [List.filter_map]; rfl
theorem nPost_spec (p : Option Addr) (d : DD) (a : Option Addr) (c : Nat) (ws : List LV) (k : Nat) (L : List HP) (hk : okD k d) (hk2 : k ≤ 10000)
    (h : RdS L a ws.length 3 (ws.flatMap LV.cells)) (hb : ∀ w ∈ ws, RdS L w.a w.body.length 1 (w.body.map B) ∧ w.body.length ≤ 1000000) (hw : ws.length ≤ 100000) :
    CallsS Try.prog 11 [.pointer p, .slice a ws.length c] (nH p d :: L) (fun v L' => v = .int .i64 (poE d (ws.map LV.abs)) ∧ L' = nH p (poD d (ws.map LV.abs)) :: L) := by
  refine calls_nH (fun e0 e => ?_) (fun b s e0 e => ?_)
  · subst e0 e
    refine CallsS.of_body Try.func11 rfl rfl rfl ?_
    repeat (first | (refine GQ.y ?_; refine Q.y ?_) | refine N.tn ?_ | refine N.tr ?_ | refine N.te ?_ | refine N.bn ?_ | refine N.br ?_ | refine N.be ?_ | refine N.bx rfl ?_ | refine swp_seq ?_ | refine swp_region ?_ | refine opsS_nil ?_ | refine swp_ret ?_ | refine swp_skip ?_ | refine swp_exit ?_ | refine swp_block ?_ | refine swp_cond_true rfl ?_ | refine swp_cond_false rfl ?_ | (refine GQ.g ?_; refine Q.gq ?_) | (refine GQ.s ?_; refine Q.st ?_) | (refine GQ.g ?_; refine Q.gd ?_) | refine Q.ct rfl ?_ | refine Q.cf rfl ?_ | (refine GQ.a ?_; refine Q.al (fun b1 => ?_)))
    exact N.r1 (RV.tmp rfl RV.nil) (nH_none rfl) ⟨rfl, rfl⟩
  · subst e0 e
    have hs := hk s rfl
    refine (Post_spec _ _ _ _ a c ws _ h hb hw (by omega)).weak (Ent.refl _) ?_
    rintro _ _ ⟨rfl, rfl⟩
    have e1 : ((ws.filter (okL s.1)).length : Int) = poE (some s) (ws.map LV.abs) := by simp only [poE]; rw [← okL_eq, List.length_map]
    rw [e1, okL_eq]
    exact ⟨_, nH_some (s := (s.1, s.2.1 ++ (ws.map LV.abs).filter (fun l => decide (okP s.1 l.1 l.2.1) && decide (l.2.2.length ≤ 4102)), s.2.2)), rfl, rfl⟩
theorem xPost_spec (p : Option Addr) (d : DD) (a : Option Addr) (c : Nat) (ws : List LV) (k : Nat) (L : List HP) (hk : okD k d) (hk2 : k ≤ 10000)
    (h : RdS L a ws.length 3 (ws.flatMap LV.cells)) (hb : ∀ w ∈ ws, RdS L w.a w.body.length 1 (w.body.map B) ∧ w.body.length ≤ 1000000) (hw : ws.length ≤ 100000) :
    CallsS Try.prog 26 [.pointer p, .slice a ws.length c] (xH p d :: L) (fun v L' => v = .int .i64 (poE d (ws.map LV.abs)) ∧ L' = xH p (poD d (ws.map LV.abs)) :: L) := by
  refine calls_xH (fun e0 e => ?_) (fun b s e0 e => ?_)
  · subst e0 e
    refine CallsS.of_body Try.func26 rfl rfl rfl ?_
    repeat (first | (refine GQ.y ?_; refine Q.y ?_) | refine N.tn ?_ | refine N.tr ?_ | refine N.te ?_ | refine N.bn ?_ | refine N.br ?_ | refine N.be ?_ | refine N.bx rfl ?_ | refine swp_seq ?_ | refine swp_region ?_ | refine opsS_nil ?_ | refine swp_ret ?_ | refine swp_skip ?_ | refine swp_exit ?_ | refine swp_block ?_ | refine swp_cond_true rfl ?_ | refine swp_cond_false rfl ?_ | (refine GQ.g ?_; refine Q.gq ?_) | (refine GQ.s ?_; refine Q.st ?_) | (refine GQ.g ?_; refine Q.gd ?_) | refine Q.ct rfl ?_ | refine Q.cf rfl ?_ | (refine GQ.a ?_; refine Q.al (fun b1 => ?_)))
    exact N.r1 (RV.tmp rfl RV.nil) (xH_none rfl) ⟨rfl, rfl⟩
  · subst e0 e
    have hs := hk s rfl
    refine (RPost_spec _ _ _ _ a c ws _ h hb hw (by omega)).weak (Ent.refl _) ?_
    rintro _ _ ⟨rfl, rfl⟩
    have e1 : ((ws.filter (okL s.1)).length : Int) = poE (some s) (ws.map LV.abs) := by simp only [poE]; rw [← okL_eq, List.length_map]
    rw [e1, okL_eq]
    exact ⟨_, xH_some (s := (s.1, s.2.1 ++ (ws.map LV.abs).filter (fun l => decide (okP s.1 l.1 l.2.1) && decide (l.2.2.length ≤ 4102)), s.2.2)), rfl, rfl⟩
theorem LSM_nil {M : Nat → Option Obj} : LSM M none [] := ⟨by simp, SlM.nil⟩
theorem nLetters_spec (p : Option Addr) (d : DD) (k : Nat) (L : List HP) (hk : okD k d) (hk2 : k ≤ 10000) : CallsS Try.prog 21 [.pointer p] (nH p d :: L)
    (fun v L' => ∃ a c vs M, v = .slice a vs.length c ∧ vs.map LV.abs = lsD d ∧ LSM M a vs ∧ L' = roM M :: nH p d :: L) := by
  refine calls_nH (fun e0 e => ?_) (fun b s e0 e => ?_)
  · subst e0 e
    refine CallsS.of_body Try.func21 rfl rfl rfl ?_
    repeat (first | (refine GQ.y ?_; refine Q.y ?_) | refine N.tn ?_ | refine N.tr ?_ | refine N.te ?_ | refine N.bn ?_ | refine N.br ?_ | refine N.be ?_ | refine N.bx rfl ?_ | refine swp_seq ?_ | refine swp_region ?_ | refine opsS_nil ?_ | refine swp_ret ?_ | refine swp_skip ?_ | refine swp_exit ?_ | refine swp_block ?_ | refine swp_cond_true rfl ?_ | refine swp_cond_false rfl ?_ | (refine GQ.g ?_; refine Q.gq ?_) | (refine GQ.s ?_; refine Q.st ?_) | (refine GQ.g ?_; refine Q.gd ?_) | refine Q.ct rfl ?_ | refine Q.cf rfl ?_ | (refine GQ.a ?_; refine Q.al (fun b1 => ?_)))
    exact N.r1 (RV.tmp rfl RV.nil) ((nH_none rfl).trans roM_none) ⟨none, 0, [], _, rfl, rfl, LSM_nil, rfl⟩
  · subst e0 e
    have hs := hk s rfl
    refine (Letters_spec _ _ _ _ _ (by omega) (fun l hl => (hs.1.2.2.2.1 l hl).2.2.2.2.2)).weak (Ent.refl _) ?_
    rintro _ _ ⟨a, c, vs, M, rfl, hv, hM, rfl⟩
    exact ⟨_, nH_some.cons, a, c, vs, M, rfl, hv, hM, rfl⟩
end Go.Proofs.Ytdjglpmnfckimaa
