/- Cuts behind blocks. No condition. -/
import Derived.Test.YtdjglpmnfckimaaSxT
set_option linter.unusedVariables false
set_option linter.unusedSimpArgs false
namespace Go.SX
open Go
/-- A cut behind a block (what its exits and its end come to). -/
theorem swp_cutB {P : Program} {n : Nat} {x y : Code} {Q : Post} {f : Env} {L : List HP} {σ : Type} {i : Nat} (sl : σ → List (Nat × Value)) (H : σ → List HP) (φ : σ → Prop)
    (h : swp P n x (blockS i (thenS (fun f L => ∃ s, slots f (sl s) ∧ Ent L (H s) ∧ φ s) Q)) f L)
    (hk : ∀ s, φ s → swp P n y Q (updAll (sl s)) (H s)) : swp P n x (blockS i (thenS (fun f L => swp P n y Q f L) Q)) f L := by
  refine swp_mono h ?_
  have key : ∀ e f L, thenS (fun f L => ∃ s, slots f (sl s) ∧ Ent L (H s) ∧ φ s) Q e f L → thenS (fun f L => swp P n y Q f L) Q e f L := by
    intro e f L q
    cases e <;> first | exact q | (obtain ⟨s, h1, h2, h3⟩ := q; exact swp_keep _ h1 (swp_ent h2 (hk s h3)))
  intro e f L q
  cases e with
  | exit j =>
    unfold blockS at q ⊢
    simp only at q ⊢
    cases hb : Nat.beq j i with
    | true => rw [hb] at q; simp only [cond_true] at q ⊢; exact key _ _ _ q
    | false => rw [hb] at q; simp only [cond_false] at q ⊢; exact key _ _ _ q
  | _ => unfold blockS at q ⊢; exact key _ _ _ q
/-- An owned slice isn't longer than its room. -/
theorem UpdS.cap {a : Option Addr} {L : List HP} {t sz m c : Nat} {cs : List Value} {L' : HP → List HP} (h : UpdS a L t sz m c cs L') {w : World} {F : List HP} (H : St w (L ++ F)) : m ≤ c := by
  obtain ⟨R, p, _⟩ := h.at_
  have := St.slO_open (L := R ++ F) (by simpa using St.perm (p.append_right F) H)
  rcases this.2 with ⟨_, h, h', _⟩ | ⟨b, _, h, h', _⟩
  · omega
  · exact h'
theorem swp_cap (a : Option Addr) {P : Program} {n : Nat} {cd : Code} {Q : Post} {f : Env} {L : List HP} {t sz m c : Nat} {cs : List Value} {L' : HP → List HP} [h : UpdS a L t sz m c cs L'] (H : m ≤ c → swp P n cd Q f L) : swp P n cd Q f L :=
  fun ok F ac w s t => H (h.cap t) ok F ac w s t
theorem opsS_cap (a : Option Addr) {P : Program} {n : Nat} {ops rest : List Oper} {Q : Post} {f : Env} {L : List HP} {t sz m c : Nat} {cs : List Value} {L' : HP → List HP} [h : UpdS a L t sz m c cs L'] (H : m ≤ c → opsS P n ops rest Q f L) : opsS P n ops rest Q f L :=
  fun ok F ac w s t => H (h.cap t) ok F ac w s t
section
variable {P : Program} {n : Nat} {ops : List Oper} {f : Env} {A : List HP} {d : Tmp} {ty : TypeId} {pos : String} {af : Array Edge}
/-- Indices that are constants. -/
theorem Y.iac {x y : Operand} {t e : TypeId} {b o m c sz bts k : Nat} {ag : Bool} {zs : List Value} {kk : IntKind} [h : SlTy P t e] [h2 : Ty P e ag sz zs bts] (hx : ev f x = some (.slice (some ⟨b, o, none⟩) m c)) (hy : ev f y = some (.int kk (Int.ofNat k))) (h1 : k < m) :
    YieldS P n ops ⟨some d, .indexAddr t x y, ty, pos, af, none⟩ f A (.pointer (some ⟨b, o + k * sz, none⟩)) := Y.ia hx hy rfl h1
theorem Y.iaac {x y : Operand} {t e : TypeId} {b o len sz bts k : Nat} {ag : Bool} {zs : List Value} {kk : IntKind} [h : ArrTy P t len e] [h2 : Ty P e ag sz zs bts] (hx : ev f x = some (.pointer (some ⟨b, o, none⟩))) (hy : ev f y = some (.int kk (Int.ofNat k))) (h1 : Nat.blt k len = true) :
    YieldS P n ops ⟨some d, .indexAddr t x y, ty, pos, af, none⟩ f A (.pointer (some ⟨b, o + k * sz, none⟩)) := Y.iaa hx hy rfl (by simpa using h1)
end
end Go.SX
