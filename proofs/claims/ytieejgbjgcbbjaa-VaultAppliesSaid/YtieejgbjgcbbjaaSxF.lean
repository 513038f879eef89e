/- Small steps between codes; ends. No condition. -/
import Derived.Test.YtieejgbjgcbbjaaSxE
set_option linter.unusedVariables false
set_option linter.unusedSimpArgs false
namespace Go.SX
open Go
section
variable {K : Env → List HP → Prop} {Q : Post} {f : Env} {L : List HP} {rs : List ResultVar} {R : Value → List HP → Prop}
theorem N.tn (h : K f L) : thenS K Q .normal f L := h
theorem N.tr (h : Q .ret f L) : thenS K Q .ret f L := h
theorem N.te {i : Nat} (h : Q (.exit i) f L) : thenS K Q (.exit i) f L := h
theorem N.bn {i : Nat} (h : Q .normal f L) : blockS i Q .normal f L := h
theorem N.br {i : Nat} (h : Q .ret f L) : blockS i Q .ret f L := h
theorem N.be {i : Nat} (h : Q .normal f L) : blockS i Q (.exit i) f L := by simp only [blockS]; rw [show Nat.beq i i = true from by simp]; exact h
theorem N.bx {i j : Nat} (e : Nat.beq j i = false) (h : Q (.exit j) f L) : blockS i Q (.exit j) f L := by simp only [blockS]; rw [e]; exact h
theorem N.r0 {P : Program} {n : Nat} (h0 : RV P n rs f L []) {L' : List HP} (he : Ent L L') (h : R (.tuple #[]) L') : retS P n rs R .ret f L := ⟨_, h0, _, he, h⟩
theorem N.r1 {P : Program} {n : Nat} {v : Value} (h0 : RV P n rs f L [v]) {L' : List HP} (he : Ent L L') (h : R v L') : retS P n rs R .ret f L := ⟨_, h0, _, he, h⟩
theorem N.r2 {P : Program} {n : Nat} {v u : Value} (h0 : RV P n rs f L [v, u]) {L' : List HP} (he : Ent L L') (h : R (.tuple #[v, u]) L') : retS P n rs R .ret f L := ⟨_, h0, _, he, h⟩
theorem N.r3 {P : Program} {n : Nat} {v u x : Value} (h0 : RV P n rs f L [v, u, x]) {L' : List HP} (he : Ent L L') (h : R (.tuple #[v, u, x]) L') : retS P n rs R .ret f L := ⟨_, h0, _, he, h⟩
theorem N.n0 {P : Program} {n : Nat} (h0 : RV P n rs f L []) {L' : List HP} (he : Ent L L') (h : R (.tuple #[]) L') : retS P n rs R .normal f L := ⟨_, h0, _, he, h⟩
theorem N.n1 {P : Program} {n : Nat} {v : Value} (h0 : RV P n rs f L [v]) {L' : List HP} (he : Ent L L') (h : R v L') : retS P n rs R .normal f L := ⟨_, h0, _, he, h⟩
end
/-! One list out of another one. -/
class Pick (A : HP) (L : List HP) (L0 : outParam (List HP)) : Prop where
  ent : Ent L (A :: L0)
instance Pick.here {A : HP} {L : List HP} : Pick A (A :: L) L := ⟨Ent.refl _⟩
instance (priority := low) Pick.there {A B : HP} {L L0 : List HP} [h : Pick A L L0] : Pick A (B :: L) (B :: L0) := ⟨(h.ent.cons).trans (Ent.perm (.swap _ _ _))⟩
/-- A call whose contract wants one of the list's assertions in front. -/
theorem S.cq {P : Program} {n : Nat} {ops rest : List Oper} {Q : Post} {f : Env} {L : List HP} {d : Tmp} {ty : TypeId} {pos : String} {af : Array Edge} {A : HP} {L0 : List HP} {g : FuncId} {xs : Array Operand} {ats : Array TypeId} {args : List Value} {R : Value → List HP → Prop} [he : Enters P g]
    (hx : argsL f xs.toList = some args) (hc : CallsS P g args (A :: L0) R) [hp : Pick A L L0] (hk : ∀ v L', R v L' → opsS P n ops rest Q (upd f d v) L') :
    opsS P n ops (⟨some d, .call ⟨.value (.func g), xs, ats⟩, ty, pos, af, none⟩ :: rest) Q f L := opsS_ent hp.ent (S.cr hx hc hk)
theorem S.cq0 {P : Program} {n : Nat} {ops rest : List Oper} {Q : Post} {f : Env} {L : List HP} {ty : TypeId} {pos : String} {af : Array Edge} {A : HP} {L0 : List HP} {g : FuncId} {xs : Array Operand} {ats : Array TypeId} {args : List Value} {R : Value → List HP → Prop} [he : Enters P g]
    (hx : argsL f xs.toList = some args) (hc : CallsS P g args (A :: L0) R) [hp : Pick A L L0] (hk : ∀ v L', R v L' → opsS P n ops rest Q f L') :
    opsS P n ops (⟨none, .call ⟨.value (.func g), xs, ats⟩, ty, pos, af, none⟩ :: rest) Q f L := opsS_ent hp.ent (S.cr0 hx hc hk)
theorem Ent.pick {A : HP} {L L0 L' : List HP} [h : Pick A L L0] (H : Ent L0 L') : Ent L (A :: L') := h.ent.trans H.cons
theorem CallsS.weak {P : Program} {g : FuncId} {args : List Value} {L L' : List HP} {R R' : Value → List HP → Prop} (hL : Ent L L') (h : CallsS P g args L' R) (hR : ∀ v M, R v M → ∃ M', Ent M M' ∧ R' v M') : CallsS P g args L R' := by
  intro F w t
  refine (h F w (hL w F t)).mono ?_
  rintro e w' ⟨v, M, rfl, t', r⟩
  obtain ⟨M', h1, h2⟩ := hR v M r
  exact ⟨v, M', rfl, h1 _ _ t', h2⟩
theorem CallsS.ent {P : Program} {g : FuncId} {args : List Value} {L L' : List HP} {R : Value → List HP → Prop} (hL : Ent L L') (h : CallsS P g args L' R) : CallsS P g args L R := fun F w t => h F w (hL w F t)
theorem CallsS.ex {P : Program} {g : FuncId} {args : List Value} {α : Sort _} {X : α → HP} {L : List HP} {R : Value → List HP → Prop} (h : ∀ x, CallsS P g args (X x :: L) R) : CallsS P g args (exH X :: L) R := fun F w t =>
  let ⟨x, t⟩ := St.open_ex t; h x F w t
theorem CallsS.pure {P : Program} {g : FuncId} {args : List Value} {φ : Prop} {L : List HP} {R : Value → List HP → Prop} (h : φ → CallsS P g args L R) : CallsS P g args (pureH φ :: L) R := fun F w t =>
  let ⟨x, t⟩ := St.open_pure t; h x F w t
theorem CallsS.all {P : Program} {g : FuncId} {args : List Value} {L0 L : List HP} {R : Value → List HP → Prop} (h : CallsS P g args (L0 ++ L) R) : CallsS P g args (allH L0 :: L) R := h.ent Ent.open_all
theorem CallsS.mono {P : Program} {g : FuncId} {args : List Value} {L : List HP} {R R' : Value → List HP → Prop} (h : CallsS P g args L R) (hR : ∀ v M, R v M → R' v M) : CallsS P g args L R' := h.weak (Ent.refl _) fun v M r => ⟨M, Ent.refl _, hR v M r⟩
theorem Ent.ex {α : Sort _} {X : α → HP} {L L' : List HP} (h : ∀ x, Ent (X x :: L) L') : Ent (exH X :: L) L' := fun w F t => let ⟨x, t⟩ := St.open_ex (M := L ++ F) t; h x w F t
theorem Ent.pure {φ : Prop} {L L' : List HP} (h : φ → Ent L L') : Ent (pureH φ :: L) L' := fun w F t => let ⟨x, t⟩ := St.open_pure (M := L ++ F) t; h x w F t
theorem opsS_all {P : Program} {n : Nat} {ops rest : List Oper} {Q : Post} {f : Env} {L0 L : List HP} (h : opsS P n ops rest Q f (L0 ++ L)) : opsS P n ops rest Q f (allH L0 :: L) := opsS_ent Ent.open_all h
theorem swp_all {P : Program} {n : Nat} {c : Code} {Q : Post} {f : Env} {L0 L : List HP} (h : swp P n c Q f (L0 ++ L)) : swp P n c Q f (allH L0 :: L) := swp_ent Ent.open_all h
end Go.SX
