/- Owned slices found by their address, given up for writing. No condition. -/
import Derived.Test.YtieejgbjgcbbjaaSxX
set_option linter.unusedVariables false
set_option linter.unusedSimpArgs false
namespace Go.SX
open Go
theorem RdS.from2 {L : List HP} {b o m c l sz : Nat} {cs : List Value} (h : RdS L (some ⟨b, o, none⟩) m sz cs) (h1 : l ≤ m) (h2 : m ≤ c) : RdS L (some ⟨b, if c = l then o else o + l * sz, none⟩) (m - l) sz (cs.drop (l * sz)) := by
  rcases h.2 with h0 | ⟨b', o', e, r⟩
  · exact ⟨by rw [List.length_drop, h.1, Nat.sub_mul], .inl (by omega)⟩
  · cases e; exact RdS.from r h.1 h1 h2
class PickS (a : Option Addr) (L : List HP) (t sz m c : outParam Nat) (cs : outParam (List Value)) (L0 : outParam (List HP)) : Prop where
  ent : Ent L (slO t sz a m c cs :: L0)
instance PickS.here {a : Option Addr} {t sz m c : Nat} {cs : List Value} {L : List HP} : PickS a (slO t sz a m c cs :: L) t sz m c cs L := ⟨Ent.refl _⟩
instance (priority := low) PickS.there {a : Option Addr} {t sz m c : Nat} {cs : List Value} {B : HP} {L L0 : List HP} [h : PickS a L t sz m c cs L0] : PickS a (B :: L) t sz m c cs (B :: L0) := ⟨(h.ent.cons).trans (Ent.perm (.swap _ _ _))⟩
section
variable {P : Program} {n : Nat} {ops rest : List Oper} {cd : Code} {Q : Post} {f : Env} {t sz m c : Nat} {cs : List Value} {L L0 L1 : List HP} {M : Nat → Option Obj}
theorem swp_abs (a : Option Addr) [h : PickS a L t sz m c cs L0] [h1 : PickM L0 M L1] (hk : ∀ M', leM M M' → SlM M' a m sz cs → swp P n cd Q f (roM M' :: L1)) : swp P n cd Q f L :=
  swp_ent h.ent (swp_absorb hk)
theorem opsS_abs (a : Option Addr) [h : PickS a L t sz m c cs L0] [h1 : PickM L0 M L1] (hk : ∀ M', leM M M' → SlM M' a m sz cs → opsS P n ops rest Q f (roM M' :: L1)) : opsS P n ops rest Q f L :=
  opsS_ent h.ent (opsS_absorb hk)
end
end Go.SX
