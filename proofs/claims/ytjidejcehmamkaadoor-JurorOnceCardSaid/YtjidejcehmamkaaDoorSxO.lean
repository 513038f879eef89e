/- Owned slices found by their address, given up for writing. No condition. -/
import Derived.Test.YtjidejcehmamkaaDoorSxX
set_option linter.unusedVariables false
set_option linter.unusedSimpArgs false
namespace Go.SX
open Go
theorem RdS.from2 {L : List HP} {b o m c l sz : Nat} {cs : List Value} (h : RdS L (some ⟨b, o, none⟩) m sz cs) (h1 : l ≤ m) (h2 : m ≤ c) : RdS L (some ⟨b, if c = l then o else o + l * sz, none⟩) (m - l) sz (cs.drop (l * sz)) := by
  rcases h.2 with h0 | ⟨b', o', e, r⟩
  · exact ⟨by rw [List.length_drop, h.1, Nat.sub_mul], .inl (by omega)⟩
  · cases e; exact RdS.from r h.1 h1 h2
class PickS (a : Option Addr) (L : List HP) (t sz m c : outParam Nat) (cs : outParam (List Value)) (L0 : outParam (List HP)) : Prop where
  ent : Ent L (slO t sz a m c cs :: L0)
instance PickS.here {a : Option Addr} {t sz m c : Nat} {cs : List Value} {L : List HP} : PickS a (slO t sz a m c cs :: L) t sz m c cs L := ⟨Ent.refl _⟩
instance (priority := low) PickS.there {a : Option Addr} {t sz m c : Nat} {cs : List Value} {B : HP} {L L0 : List HP} [h : PickS a L t sz m c cs L0] : PickS a (B :: L) t sz m c cs (B :: L0) := ⟨(h.ent.cons).trans (Ent.perm (.swap _ _ _))⟩
section
variable {P : Program} {n : Nat} {ops rest : List Oper} {cd : Code} {Q : Post} {f : Env} {t sz m c : Nat} {cs : List Value} {L L0 L1 : List HP} {M : Nat → Option Obj}
theorem swp_abs (a : Option Addr) [h : PickS a L t sz m c cs L0] [h1 : PickM L0 M L1] (hk : ∀ M', leM M M' → SlM M' a m sz cs → swp P n cd Q f (roM M' :: L1)) : swp P n cd Q f L :=
  swp_ent h.ent (swp_absorb hk)
theorem opsS_abs (a : Option Addr) [h : PickS a L t sz m c cs L0] [h1 : PickM L0 M L1] (hk : ∀ M', leM M M' → SlM M' a m sz cs → opsS P n ops rest Q f (roM M' :: L1)) : opsS P n ops rest Q f L :=
  opsS_ent h.ent (opsS_absorb hk)
end
end Go.SX
/- Stores into owned slices; several owned slices together. No condition. -/
namespace Go.SX
open Go
section
variable {P : Program} {n : Nat} {ops rest : List Oper} {Q : Post} {f : Env} {L : List HP}
variable {d : Tmp} {ty : TypeId} {pos : String} {af : Array Edge}
theorem S.stO {x y : Operand} {t t0 sz m c bts : Nat} {ag : Bool} {zs cs cs' : List Value} {b o : Nat} {v : Value} {L' : HP → List HP} [h : Ty P t ag 1 zs bts] [hu : UpdS (some ⟨b, 0, none⟩) L t0 sz m c cs L']
    (hx : ev f x = some (.pointer (some ⟨b, o, none⟩))) (hy : ev f y = some v) (h1 : v.oneCell' = true) (hl : o < cs.length) (hl' : cs.set o v = cs')
    (hk : opsS P n ops rest Q f (L' (slO t0 sz (some ⟨b, 0, none⟩) m c cs'))) : opsS P n ops (⟨none, .store t x y, ty, pos, af, none⟩ :: rest) Q f L := by
  obtain ⟨R, p1, p2⟩ := hu.at_
  refine opsS_ent (L' := slO t0 sz (some ⟨b, 0, none⟩) m c cs :: R) (Ent.perm p1) ?_
  intro ok F a w s t1
  obtain ⟨hlen, hc⟩ := St.slO_open (L := R ++ F) (by simpa using t1)
  rcases hc with ⟨e, _⟩ | ⟨b', rs, e, hmc, hcl, hs⟩
  · cases e
  · cases e
    have key : opsS P n ops (⟨none, .store t x y, ty, pos, af, none⟩ :: rest) Q f (pt b (cl (cs ++ rs) t0) :: R) := by
      refine S.st1 hx hy h1 (Nat.ble_eq_true_of_le (by rw [List.length_append]; omega)) rfl ?_
      refine opsS_ent (Ent.trans ?_ (Ent.perm (p2 _))) hk
      rw [List.set_append_left _ _ hl, hl']
      refine slO_shut (by rw [← hl', List.length_set]; exact hlen) hmc (by rw [← hl']; simpa using hcl)
    exact key ok F a w s (by simpa using hs)
end
def skipC : Nat → Code → Code
  | 0, c => c
  | k + 1, .seq _ y => skipC k y
  | _, c => c
def headC : Code → Code
  | .seq x _ => x
  | c => c
def tailC : Code → Code
  | .seq _ y => y
  | _ => .skip
def inB : Code → Code
  | .block _ c => c
  | c => c
def bodyC : Option Code → Code
  | some c => c
  | none => .skip
def bodV (t : Nat) (xs : List (Option Addr × Nat × List Value)) : HP := allH (xs.map fun x => slO t 1 x.1 x.2.2.length x.2.1 x.2.2)
theorem bodV_nil {t : Nat} {L : List HP} : Ent L (bodV t [] :: L) := Ent.shut_all (L := [])
theorem bodV_out {t : Nat} {p q : List (Option Addr × Nat × List Value)} {x : Option Addr × Nat × List Value} {L : List HP} : Ent (bodV t (p ++ x :: q) :: L) (slO t 1 x.1 x.2.2.length x.2.1 x.2.2 :: bodV t (p ++ q) :: L) := by
  refine Ent.open_all.trans ?_
  rw [List.map_append, List.map_cons]
  refine (Ent.app (Ent.perm List.perm_middle)).trans ?_
  rw [List.cons_append, ← List.map_append]
  exact Ent.shut_all.cons
theorem bodV_in {t : Nat} {p q : List (Option Addr × Nat × List Value)} {x : Option Addr × Nat × List Value} {L : List HP} : Ent (slO t 1 x.1 x.2.2.length x.2.1 x.2.2 :: bodV t (p ++ q) :: L) (bodV t (p ++ x :: q) :: L) := by
  refine (Ent.cons Ent.open_all).trans ?_
  refine Ent.trans ?_ Ent.shut_all
  rw [List.map_append, List.map_append, List.map_cons]
  exact Ent.app (Ent.perm List.perm_middle.symm) (L := _ :: (_ ++ _))
theorem bodV_snoc {t m c : Nat} {a : Option Addr} {cs : List Value} {xs : List (Option Addr × Nat × List Value)} {L : List HP} (hm : m = cs.length) : Ent (slO t 1 a m c cs :: bodV t xs :: L) (bodV t (xs ++ [(a, c, cs)]) :: L) := by
  subst hm
  have := bodV_in (t := t) (p := xs) (q := []) (x := (a, c, cs)) (L := L)
  simpa using this
theorem bodV_rd {t : Nat} {xs : List (Option Addr × Nat × List Value)} {x : Option Addr × Nat × List Value} {L : List HP} (hx : x ∈ xs) (ha : x.2.2.length = 0 ∨ ∃ b, x.1 = some ⟨b, 0, none⟩) : RdS (bodV t xs :: L) x.1 x.2.2.length 1 x.2.2 := by
  obtain ⟨p, q, rfl⟩ := List.append_of_mem hx
  refine ⟨by simp, ha.imp id fun ⟨b, e⟩ => ⟨b, 0, e, ?_⟩⟩
  exact RdC.slO (t := t) (sz := 1) (m := x.2.2.length) (c := x.2.1) ⟨_, by rw [← e]; exact bodV_out⟩
theorem bodV_rd' {t : Nat} {xs : List (Option Addr × Nat × List Value)} (x : Option Addr × Nat × List Value) {L L0 : List HP} [hp : Pick (bodV t xs) L L0] (hx : x ∈ xs) (ha : x.2.2.length = 0 ∨ ∃ b, x.1 = some ⟨b, 0, none⟩) : RdS L x.1 x.2.2.length 1 x.2.2 :=
  (bodV_rd hx ha).ent hp.ent
theorem bodV_out' {t k c : Nat} {a : Option Addr} {cs : List Value} {p q : List (Option Addr × Nat × List Value)} {L : List HP} (hk : k = cs.length) : Ent (bodV t (p ++ (a, c, cs) :: q) :: L) (slO t 1 a k c cs :: bodV t (p ++ q) :: L) := by
  subst hk; exact bodV_out (x := (a, c, cs))
theorem bodV_in' {t k c : Nat} {a : Option Addr} {cs : List Value} {p q : List (Option Addr × Nat × List Value)} {L : List HP} (hk : k = cs.length) : Ent (slO t 1 a k c cs :: bodV t (p ++ q) :: L) (bodV t (p ++ (a, c, cs) :: q) :: L) := by
  subst hk; exact bodV_in (x := (a, c, cs))
theorem Ent.roM_le {M M' : Nat → Option Obj} {L : List HP} (h : leM M M') : Ent (roM M' :: L) (roM M :: L) := fun w F H =>
  St.of_sep (L := roM M' :: (L ++ F)) (fun hh ⟨h1, h2, ok, e, a, l⟩ => ⟨h1, h2, ok, e, fun b o e' => a b o (h b o e'), l⟩) H
end Go.SX
