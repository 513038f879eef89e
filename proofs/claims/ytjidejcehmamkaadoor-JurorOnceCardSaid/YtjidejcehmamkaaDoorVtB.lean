/- The vault: its state; holder, Blocked, open. No condition. -/
import Derived.Test.YtjidejcehmamkaaDoorVtA
set_option linter.unusedVariables false
set_option linter.unusedSimpArgs false
namespace Go.Proofs.YtjidejcehmamkaaDoor
open Go Go.SX
attribute [local irreducible] swp opsS thenS blockS retS CallsS St Ent YieldS anyS drawS
structure VS where
  dim : Int
  ch : List (Int × VL)
  its : List (Int × Int × VL)
  mark : Int
abbrev ptrV (p : Nat) : Value := .pointer (some ⟨p, 0, none⟩)
abbrev CR := Int × Nat × VL
def chsH (M : Nat → Option Obj) (cs : List CR) : HP := allH (cs.map fun c => chainH M c.2.1 c.2.2)
abbrev vP (v mc mi : Nat) (dim mark : Int) : HP := pt v (cl [.int .i64 dim, .map (some mc), .map (some mi), .int .u64 mark] 77)
abbrev vC (mc : Nat) (cs : List CR) : HP := mpO U64 ptrV mc (cs.map fun c => (c.1, c.2.1))
abbrev vI (mi : Nat) (is : List IV) : HP := mpO U64 IV.val mi (is.map fun i => (i.txn, i))
structure VOK (M : Nat → Option Obj) (st : VS) (cs : List CR) (is : List IV) : Prop where
  ch : cs.map (fun c => (c.1, c.2.2)) = st.ch
  its : is.map IV.abs = st.its
  ok : ∀ i ∈ is, okI M i
  k1 : keysOK st.ch
  k2 : keysOK st.its
def vaultH (v : Nat) (st : VS) : HP := exH fun x : (Nat × Nat × (Nat → Option Obj)) × List CR × List IV => allH [pureH (VOK x.1.2.2 st x.2.1 x.2.2), vP v x.1.1 x.1.2.1 st.dim st.mark, vC x.1.1 x.2.1, vI x.1.2.1 x.2.2, chsH x.1.2.2 x.2.1, roM x.1.2.2]
theorem vault_shut {v mc mi : Nat} {M : Nat → Option Obj} {st : VS} {cs : List CR} {is : List IV} {L : List HP} (h : VOK M st cs is) : Ent (vP v mc mi st.dim st.mark :: vC mc cs :: vI mi is :: chsH M cs :: roM M :: L) (vaultH v st :: L) :=
  Ent.trans (Ent.shut_pure h) (Ent.trans (Ent.shut_all (L := [_, _, _, _, _, _])) (Ent.shut_ex (P := fun x : (Nat × Nat × (Nat → Option Obj)) × List CR × List IV => allH [pureH (VOK x.1.2.2 st x.2.1 x.2.2), vP v x.1.1 x.1.2.1 st.dim st.mark, vC x.1.1 x.2.1, vI x.1.2.1 x.2.2, chsH x.1.2.2 x.2.1, roM x.1.2.2]) ((mc, mi, M), cs, is)))
theorem calls_vault {g : FuncId} {args : List Value} {R : Value → List HP → Prop} {v : Nat} {st : VS} {L : List HP}
    (h : ∀ mc mi M cs is, VOK M st cs is → CallsS Tryd.prog g args (vP v mc mi st.dim st.mark :: vC mc cs :: vI mi is :: chsH M cs :: roM M :: L) R) : CallsS Tryd.prog g args (vaultH v st :: L) R :=
  CallsS.ex fun x => CallsS.all (CallsS.pure fun hx => h x.1.1 x.1.2.1 x.1.2.2 x.2.1 x.2.2 hx)
class PickV (v : Nat) (L : List HP) (st : outParam VS) (L0 : outParam (List HP)) : Prop where
  ent : Ent L (vaultH v st :: L0)
instance PickV.here {v : Nat} {L : List HP} {st : VS} : PickV v (vaultH v st :: L) st L := ⟨Ent.refl _⟩
instance (priority := low) PickV.there {v : Nat} {A : HP} {L L0 : List HP} {st : VS} [h : PickV v L st L0] : PickV v (A :: L) st (A :: L0) := ⟨(h.ent.cons).trans (Ent.perm (.swap _ _ _))⟩
section
variable {n : Nat} {ops rest : List Oper} {cd : Code} {Q : Post} {f : Env} {L L0 : List HP} {st : VS}
theorem swp_vault (v : Nat) [hp : PickV v L st L0] (h : ∀ mc mi M cs is, VOK M st cs is → swp Tryd.prog n cd Q f (vP v mc mi st.dim st.mark :: vC mc cs :: vI mi is :: chsH M cs :: roM M :: L0)) : swp Tryd.prog n cd Q f L :=
  swp_ent hp.ent (swp_ex fun x => swp_all (swp_pure fun hx => h x.1.1 x.1.2.1 x.1.2.2 x.2.1 x.2.2 hx))
theorem opsS_vault (v : Nat) [hp : PickV v L st L0] (h : ∀ mc mi M cs is, VOK M st cs is → opsS Tryd.prog n ops rest Q f (vP v mc mi st.dim st.mark :: vC mc cs :: vI mi is :: chsH M cs :: roM M :: L0)) : opsS Tryd.prog n ops rest Q f L :=
  opsS_ent hp.ent (opsS_ex fun x => opsS_all (opsS_pure fun hx => h x.1.1 x.1.2.1 x.1.2.2 x.2.1 x.2.2 hx))
theorem S.cv {d : Tmp} {ty : TypeId} {pos : String} {af : Array Edge} {g : FuncId} {xs : Array Operand} {ats : Array TypeId} {args : List Value} {R : Value → List HP → Prop} (v : Nat) [hp : PickV v L st L0] [he : Enters Tryd.prog g] (hx : argsL f xs.toList = some args) (hc : CallsS Tryd.prog g args (vaultH v st :: L0) R) (hk : ∀ v L', R v L' → opsS Tryd.prog n ops rest Q (upd f d v) L') :
    opsS Tryd.prog n ops (⟨some d, .call ⟨.value (.func g), xs, ats⟩, ty, pos, af, none⟩ :: rest) Q f L := opsS_ent hp.ent (S.cr hx hc hk)
end
def opsLe (st : VS) : Prop := ∀ i ∈ st.its, i.2.2.length ≤ 1000000
theorem VOK.ops {M : Nat → Option Obj} {st : VS} {cs : List CR} {is : List IV} (h : VOK M st cs is) (hl : opsLe st) : ∀ i ∈ is, i.ops.length ≤ 1000000 := fun i hi => by
  have := hl i.abs (by rw [← h.its]; exact List.mem_map_of_mem hi)
  simpa using this
theorem its_at {is : List IV} {i : Nat} {p : Int × IV} (h : (is.map fun i => (i.txn, i))[i]? = some p) : ∃ x, is[i]? = some x ∧ x ∈ is ∧ p = (x.txn, x) := by
  rw [List.getElem?_map] at h
  cases hx : is[i]? with
  | none => rw [hx] at h; cases h
  | some x => rw [hx] at h; exact ⟨x, rfl, List.mem_of_getElem? hx, (Option.some.inj h).symm⟩
theorem any_none {α : Type} {l : List α} {p : α → Bool} {vis : List Nat} (h : ∀ i, i < l.length → i ∈ vis) (hv : ∀ i ∈ vis, ∀ x, l[i]? = some x → p x = false) : l.any p = false := by
  rw [List.any_eq_false]
  intro x hx
  obtain ⟨i, hi⟩ := List.mem_iff_getElem?.1 hx
  rw [hv i (h i (List.getElem?_eq_some_iff.1 hi).1) x hi]; exact Bool.false_ne_true
set_option maxHeartbeats 1000000 in
theorem holder_spec (v : Nat) (st : VS) (id : Int) (L : List HP) (hl : opsLe st) :
    CallsS Tryd.prog 32 [ptrV v, .int .u64 id] (vaultH v st :: L)
      (fun r L' => (∃ x y a m c, r = .tuple #[.agg #[.int .u64 x, .int .u64 y, .slice a m c], .bool (st.its.any fun i => holdsV i.2.2 id)]) ∧ L' = vaultH v st :: L) := by
  refine calls_vault fun mc mi M cs is hok => ?_
  have hops := hok.ops hl
  have hany : (st.its.any fun i => holdsV i.2.2 id) = is.any fun i => holdsV (i.ops.map OV.abs) id := by rw [← hok.its, List.any_map]; rfl
  rw [hany]
  refine CallsS.of_body Tryd.func32 rfl rfl rfl ?_
  refine Q.r ?_; (repeat (intro b1; refine Q.r ?_))
  refine S.rg rfl (fun r => ?_)
  refine Q.r ?_; (repeat (intro b1; refine Q.r ?_))
  refine swp_loop (σ := List Nat) (fun vis => [(1, .int .u64 id), (4, .pointer (some ⟨b1, 0, none⟩)), (12, .pointer (some ⟨r, 0, none⟩))])
    (fun vis => pt b1 (cl [.int .u64 0, .int .u64 0, .slice none 0 0] 66) :: vP v mc mi st.dim st.mark :: vC mc cs :: itO U64 IV.val mi r (is.map fun i => (i.txn, i)) vis :: chsH M cs :: roM M :: L)
    (fun vis => vis.Nodup ∧ (∀ i ∈ vis, i < is.length) ∧ ∀ i ∈ vis, ∀ x, is[i]? = some x → holdsV (x.ops.map OV.abs) id = false) (fun vis => is.length - vis.length) [] ⟨rfl, rfl, rfl, trivial⟩ (by repeat (first | exact Ent.refl _ | exact Ent.nil | refine Ent.pick ?_ | refine Ent.nilS ?_ | refine Ent.nilM ?_ | refine Ent.drop ?_)) ⟨by simp, by simp, by simp⟩ ?_
  rintro vis ⟨hv1, hv2, hv3⟩
  refine Q.r ?_; (repeat (intro b1; refine Q.r ?_))
  refine S.nx rfl (fun hend => ?_) (fun i p hp hi => ?_)
  · rw [List.length_map] at hend
    rw [any_none hend hv3]
    refine Q.r ?_; (repeat (intro b1; refine Q.r ?_))
    exact N.r2 (by apply RV.cellN; rfl; exact RdC.row; rfl; exact RV.tmp rfl RV.nil) (Ent.drop (Ent.trans (Ent.cons (Ent.cons itO_map)) (vault_shut hok))) ⟨⟨0, 0, none, 0, 0, rfl⟩, rfl⟩
  · obtain ⟨x, hx, hmx, rfl⟩ := its_at hp
    obtain ⟨m1, m2, m3⟩ := vis_more hv1 hv2 (List.getElem?_eq_some_iff.1 hx).1 hi
    refine Q.r ?_; (repeat (intro b1; refine Q.r ?_))
    refine S.y (Y.en rfl hp) ?_
    refine Q.r ?_; (repeat (intro b1; refine Q.r ?_))
    refine S.cr rfl (holds_spec x id _ ((hok.ok x hmx).rd) (hops x hmx)) ?_
    rintro _ _ ⟨rfl, rfl⟩
    cases hh : holdsV (x.ops.map OV.abs) id with
    | true =>
      rw [show (is.any fun i => holdsV (i.ops.map OV.abs) id) = true from List.any_eq_true.2 ⟨x, hmx, hh⟩]
      refine Q.r ?_; (repeat (intro b1; refine Q.r ?_))
      exact N.r2 (by apply RV.cellN; rfl; exact RdC.row; rfl; exact RV.tmp rfl RV.nil) (Ent.drop (Ent.drop (Ent.trans (Ent.cons (Ent.cons itO_map)) (vault_shut hok)))) ⟨⟨_, _, _, _, _, rfl⟩, rfl⟩
    | false =>
      refine Q.r ?_; (repeat (intro b1; refine Q.r ?_))
      refine ⟨vis ++ [i], ⟨rfl, rfl, rfl, trivial⟩, Ent.drop (Ent.refl _), ⟨m1, m2, fun j hj y hy => ?_⟩, by simp; omega⟩
      rcases List.mem_append.1 hj with hj | hj
      · exact hv3 j hj y hy
      · obtain rfl := List.mem_singleton.1 hj
        rw [hx] at hy
        obtain rfl := Option.some.inj hy
        exact hh
def blockedV (st : VS) (s : Int) (ids : List Int) : Bool := st.its.any fun i => decide (i.2.1 < s) && (decide (ids.length = 0) || ids.any fun id => holdsV i.2.2 id)
def openE (st : VS) (s : Int) (ids : List Int) : Int := if blockedV st s ids then 11 else if s < st.mark then 12 else 0
end Go.Proofs.YtjidejcehmamkaaDoor
