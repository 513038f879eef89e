/- A slice's length is at most its capacity, as an entailment. No condition. -/
import Derived.Test.YtjidejcehmamkaaDoorSxW
namespace Go.SX
open Go
theorem slO_cap {t sz m c : Nat} {a : Option Addr} {cs : List Value} {L : List HP} : Ent (slO t sz a m c cs :: L) (pureH (m ≤ c) :: slO t sz a m c cs :: L) := fun w F H => by
  have hc : m ≤ c := UpdS.cap (a := a) (L := slO t sz a m c cs :: L) inferInstance H
  have e : Ent (slO t sz a m c cs :: L) (pureH (m ≤ c) :: slO t sz a m c cs :: L) := Ent.shut_pure hc
  exact e w F H
end Go.SX
