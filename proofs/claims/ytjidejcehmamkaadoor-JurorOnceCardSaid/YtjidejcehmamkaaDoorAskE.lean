/- What is asked of vaults: Last, SameIntents, SameEntries, intents, entries. No condition. -/
import Derived.Test.YtjidejcehmamkaaDoorAskD
set_option linter.unusedVariables false
set_option linter.unusedSimpArgs false
namespace Go.Proofs.YtjidejcehmamkaaDoor
open Go Go.SX
attribute [local irreducible] swp opsS thenS blockS retS CallsS St Ent YieldS anyS drawS
theorem abs_all {α : Type} (f : α → HP) (g : (Nat → Option Obj) → α → Prop) (mono : ∀ M M' x, leM M M' → g M x → g M' x) (one : ∀ (x : α) (L L0 : List HP) (M : Nat → Option Obj) [PickM L M L0], Ent (f x :: L) (exH (fun M' => allH [pureH (leM M M' ∧ g M' x), roM M']) :: L0)) :
    ∀ (xs : List α) {L L0 : List HP} {M : Nat → Option Obj} [hp : PickM L M L0], Ent (allH (xs.map f) :: L) (exH (fun M' => allH [pureH (leM M M' ∧ ∀ x ∈ xs, g M' x), roM M']) :: L0) := by
  intro xs
  induction xs with
  | nil =>
    intro L L0 M hp
    refine Ent.drop (hp.ent.trans ?_)
    refine Ent.trans ?_ (Ent.shut_ex M)
    refine Ent.trans ?_ Ent.shut_all
    exact Ent.shut_pure ⟨leM.refl M, fun o ho => by cases ho⟩
  | cons o us ih =>
    intro L L0 M hp
    refine (allH_out (A := f o) (l := us.map f)).trans ?_
    have hp2 : PickM (allH (us.map f) :: L) M (allH (us.map f) :: L0) := inferInstance
    refine (one o _ _ M).trans ?_
    refine Ent.ex fun M1 => Ent.open_all.trans (Ent.pure fun hs => ?_)
    refine Ent.trans (Ent.perm (.swap _ _ _)) ?_
    refine (ih (M := M1) (L := roM M1 :: L0)).trans ?_
    refine Ent.ex fun M2 => Ent.open_all.trans (Ent.pure fun hs2 => ?_)
    refine Ent.trans ?_ (Ent.shut_ex M2)
    refine Ent.trans ?_ Ent.shut_all
    refine Ent.shut_pure ⟨hs.1.trans hs2.1, fun u hu => ?_⟩
    rcases List.mem_cons.1 hu with rfl | hu
    · exact mono _ _ _ hs2.1 hs.2
    · exact hs2.2 u hu
theorem pair_abs {t sz m c : Nat} {a : Option Addr} {cs : List Value} {us : List OV} {L L0 : List HP} {M : Nat → Option Obj} [hp : PickM L M L0] : Ent (allH [slO t sz a m c cs, vecsH us] :: L) (exH (fun M' => allH [pureH (leM M M' ∧ SlM M' a m sz cs ∧ okR M' us), roM M']) :: L0) := by
  refine pair_out.trans ?_
  have hp2 : PickM (vecsH us :: L) M (vecsH us :: L0) := inferInstance
  refine Ent.absorb.trans ?_
  refine Ent.ex fun M1 => Ent.open_all.trans (Ent.pure fun hs => ?_)
  refine Ent.trans (Ent.perm (.swap _ _ _)) ?_
  refine (vecs_abs (M := M1) (L := roM M1 :: L0) us).trans ?_
  refine Ent.ex fun M2 => Ent.open_all.trans (Ent.pure fun hs2 => ?_)
  refine Ent.trans ?_ (Ent.shut_ex M2)
  refine Ent.trans ?_ Ent.shut_all
  exact Ent.shut_pure ⟨hs.1.trans hs2.1, hs.2.mono hs2.1, hs2.2⟩
theorem its_abs (es : List IV) {L L0 : List HP} {M : Nat → Option Obj} [hp : PickM L M L0] : Ent (itsH es :: L) (exH (fun M' => allH [pureH (leM M M' ∧ ∀ e ∈ es, okI M' e), roM M']) :: L0) :=
  abs_all opsH okI (fun M M' x hl h => h.mono hl) (fun x L L0 M _ => pair_abs) es
theorem ent_abs (es : List EV) {L L0 : List HP} {M : Nat → Option Obj} [hp : PickM L M L0] : Ent (entH es :: L) (exH (fun M' => allH [pureH (leM M M' ∧ ∀ e ∈ es, okE M' e), roM M']) :: L0) :=
  abs_all verH okE (fun M M' x hl h => h.mono hl) (fun x L L0 M _ => pair_abs) es
theorem opsS_absI (es : List IV) {n : Nat} {ops rest : List Oper} {Q : Post} {f : Env} {L L0 L1 : List HP} {M : Nat → Option Obj} [h : Pick (itsH es) L L0] [h1 : PickM L0 M L1] (hk : ∀ M', leM M M' → (∀ e ∈ es, okI M' e) → opsS Tryd.prog n ops rest Q f (roM M' :: L1)) : opsS Tryd.prog n ops rest Q f L :=
  opsS_ent (h.ent.trans (its_abs es)) (opsS_ex fun M' => opsS_all (opsS_pure fun hh => hk M' hh.1 hh.2))
theorem opsS_absE (es : List EV) {n : Nat} {ops rest : List Oper} {Q : Post} {f : Env} {L L0 L1 : List HP} {M : Nat → Option Obj} [h : Pick (entH es) L L0] [h1 : PickM L0 M L1] (hk : ∀ M', leM M M' → (∀ e ∈ es, okE M' e) → opsS Tryd.prog n ops rest Q f (roM M' :: L1)) : opsS Tryd.prog n ops rest Q f L :=
  opsS_ent (h.ent.trans (ent_abs es)) (opsS_ex fun M' => opsS_all (opsS_pure fun hh => hk M' hh.1 hh.2))
theorem Mark_spec (v : Nat) (st : VS) (L : List HP) :
    CallsS Tryd.prog 49 [ptrV v] (vaultH v st :: L) (fun r L' => r = .int .u64 st.mark ∧ L' = vaultH v st :: L) := by
  refine calls_vault fun mc mi M cs is hok => ?_
  refine CallsS.of_body Tryd.func49 rfl rfl rfl ?_
  refine Q.r ?_; (repeat (intro b1; refine Q.r ?_))
  exact N.r1 (RV.tmp rfl RV.nil) (vault_shut (mc := mc) (mi := mi) hok) ⟨rfl, rfl⟩
end Go.Proofs.YtjidejcehmamkaaDoor
