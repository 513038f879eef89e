/- VaultApplies, walked. No condition. -/
import Derived.Test.YtjidejcehmamkaaDoorVtG
set_option linter.unusedVariables false
set_option linter.unusedSimpArgs false
namespace Go.Proofs.YtjidejcehmamkaaDoor
open Go Go.SX
attribute [local irreducible] swp opsS thenS blockS retS CallsS St Ent YieldS anyS drawS
theorem opsS_absV (us : List OV) {n : Nat} {ops rest : List Oper} {Q : Post} {f : Env} {L L0 L1 : List HP} {M : Nat → Option Obj} [h : Pick (vecsH us) L L0] [h1 : PickM L0 M L1] (hk : ∀ M', leM M M' → okR M' us → opsS Tryd.prog n ops rest Q f (roM M' :: L1)) : opsS Tryd.prog n ops rest Q f L :=
  opsS_ent (h.ent.trans (vecs_abs us)) (opsS_ex fun M' => opsS_all (opsS_pure fun hh => hk M' hh.1 hh.2))
theorem IV_lock {t af : Int} {a : Option Addr} {c : Nat} {us : List OV} : (IV.mk t af a c us).val = .agg #[.int .u64 t, .int .u64 af, .slice a us.length c] := rfl
end Go.Proofs.YtjidejcehmamkaaDoor
