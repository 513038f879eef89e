/- The vault: what it is; holds, Check, copyOf. The scroll's writer: numbers, vectors, bytes. The vault: its state; holder, Blocked, open. The vault: copyOf, New, Lock. The vault: Apply, Free. maps.Keys at maps with keys of type uint64, walked. slices.Sort's parts at numbers of type uint64, walked: cmp.Less, insertionSort. slices.Sort's parts at numbers of type uint64, walked: siftDown, heapSort. slices.Sort's parts at numbers of type uint64, walked: heapSort, reverseRange. slices.Sort's parts at numbers of type uint64, walked: partition.  By a program (wip/gen/srt.py). slices.Sort's parts at numbers of type uint64, walked: partitionEqual.  By a program (wip/gen/srt.py). slices.Sort's parts at numbers of type uint64, walked: partialInsertionSort. slices.Sort's parts at numbers of type uint64, walked: the pivot. slices.Sort's parts at numbers of type uint64, walked: bits.Len, breakPatterns. slices.Sort's parts at numbers of type uint64, walked: breakPatterns. slices.Sort's parts at numbers of type uint64, walked: pdqsort. slices.Sort, slices.Sorted(maps.Keys(..)) at numbers of type uint64. The vault: ids, Dump (its length), Intents (its length), Get, Last. The vault: Get, Last. The vault's law: Few, awake. VaultApplies, walked. The ref's vault: what it is; Right, Check, Holds, Find, last, Chain, SameOps. The ref's vault: Free, SameOps, Check. The ref's vault: SameOps, Check. A slice's length is at most its capacity, as an entailment. The ref's vault: Lock. The ref's vault: Put, set. The ref's vault: Apply. The ref's vault: Apply, walked. Chains: Clone of versions, Sweep. The vault: Sweep. The ref's vault: the chain's Sweep, set of nothing. The ref's vault: Sweep. The vault's law: do. The vault: what every step keeps. No condition. -/
import Derived.Sort.LotD1
import Derived.Sort.AssemblyPlain
import Derived.Test.YtiampehfpgcogaaDoorPk03
set_option linter.unusedVariables false
set_option linter.unusedSimpArgs false
set_option linter.unusedSectionVars false
namespace Go.Proofs.YtiampehfpgcogaaDoor
open Go Go.SX
attribute [local irreducible] swp opsS thenS blockS retS CallsS St Ent YieldS anyS drawS
structure IV where
  txn : Int
  after : Int
  a : Option Addr
  c : Nat
  ops : List OV
abbrev IV.cells (i : IV) : List Value := [.int .u64 i.txn, .int .u64 i.after, .slice i.a i.ops.length i.c]
abbrev IV.val (i : IV) : Value := .agg #[.int .u64 i.txn, .int .u64 i.after, .slice i.a i.ops.length i.c]
abbrev IV.abs (i : IV) : Int × Int × VL := (i.txn, i.after, i.ops.map OV.abs)
def RdO (A : List HP) (a : Option Addr) (ops : List OV) : Prop := RdS A a ops.length 2 (ops.flatMap OV.cells) ∧ ∀ o ∈ ops, RdS A o.a o.vec.length 1 (o.vec.map I32)
theorem RdO.sub {A L : List HP} {a : Option Addr} {ops : List OV} (h : RdO A a ops) [s : Sub A L] : RdO L a ops := ⟨h.1.sub, fun o ho => (h.2 o ho).sub⟩
def okI (M : Nat → Option Obj) (i : IV) : Prop := SlM M i.a i.ops.length 2 (i.ops.flatMap OV.cells) ∧ okR M i.ops
theorem okI.rd {M : Nat → Option Obj} {i : IV} (h : okI M i) {L : List HP} [HasM M L] : RdO L i.a i.ops := ⟨h.1.rd, fun o ho => (h.2 o ho).rd⟩
theorem okI.mono {M M' : Nat → Option Obj} {i : IV} (h : okI M i) (hl : leM M M') : okI M' i := ⟨h.1.mono hl, fun o ho => (h.2 o ho).mono hl⟩
def holdsV (ops : VL) (id : Int) : Bool := ops.any fun o => decide (o.1 = id)
def badO (dim : Int) (o : Int × List Int) : Bool := decide (1099511627776 < o.1) || (decide (0 < o.2.length) && (!rightV o.2 || decide ((o.2.length : Int) ≠ dim)))
def checkV (dim : Int) (ops : VL) : Int :=
  if dim < 1 ∨ 8 < dim then 1 else if ops.length = 0 then 2 else if 16 < ops.length then 3 else if ops.any (badO dim) then 4 else if (ops.map (·.1)).Nodup then 0 else 7
theorem lkL_put {κ α : Type} [DecidableEq κ] {m : List (κ × α)} (h : keysOK m) (x y : κ) (a : α) : lkL (putL m x a) y = if y = x then some a else lkL m y := by
  rcases keyCase m h x with ⟨p, b, q, rfl, hp, hq⟩ | hn
  · rw [putL_mid hp hq]
    by_cases hxy : y = x
    · subst hxy; rw [if_pos rfl, lkL_mid hp]
    · rw [if_neg hxy]
      unfold lkL
      simp [List.find?_append, List.find?_cons, Ne.symm hxy]
  · rw [putL_none hn]
    by_cases hxy : y = x
    · subst hxy
      rw [if_pos rfl]
      have : m.find? (fun u => decide (u.1 = y)) = none := by simp; exact fun a b hh => hn (a, b) hh
      simp [lkL, List.find?_append, this]
    · rw [if_neg hxy]
      unfold lkL
      simp [List.find?_append, List.find?_cons, Ne.symm hxy]
set_option maxHeartbeats 2000000 in
theorem Check_spec (dim : Int) (a : Option Addr) (c : Nat) (ops : List OV) (A : List HP) (h : RdO A a ops) (hn : ops.length ≤ 1000000) (hv : ∀ o ∈ ops, o.vec.length ≤ 1000000) (hd : -9223372036854775808 ≤ dim ∧ dim ≤ 9223372036854775807) :
    CallsS Tryd.prog 36 [.int .i64 dim, .slice a ops.length c] A (fun v L' => v = .int .i64 (checkV dim (ops.map OV.abs)) ∧ L' = A) := by
  unfold checkV
  rw [List.length_map]
  refine CallsS.of_body Tryd.func36 rfl rfl rfl ?_
  by_cases h1 : dim < 1 ∨ 8 < dim
  · rw [if_pos h1]
    by_cases h1a : dim < 1
    · refine Q.r ?_; (repeat (intro b1; refine Q.r ?_))
      exact N.r1 (RV.tmp rfl RV.nil) (Ent.refl _) ⟨rfl, rfl⟩
    · refine Q.r ?_; (repeat (intro b1; refine Q.r ?_))
      exact N.r1 (RV.tmp rfl RV.nil) (Ent.refl _) ⟨rfl, rfl⟩
  rw [if_neg h1]
  by_cases h2 : ops.length = 0
  · rw [if_pos h2]
    refine Q.r ?_; (repeat (intro b1; refine Q.r ?_))
    exact N.r1 (RV.tmp rfl RV.nil) (Ent.refl _) ⟨rfl, rfl⟩
  rw [if_neg h2]
  by_cases h3 : 16 < ops.length
  · rw [if_pos h3]
    refine Q.r ?_; (repeat (intro b1; refine Q.r ?_))
    exact N.r1 (RV.tmp rfl RV.nil) (Ent.refl _) ⟨rfl, rfl⟩
  rw [if_neg h3]
  refine Q.r ?_; (repeat (intro b1; refine Q.r ?_))
  refine S.mkm U64 Value.bool (fun b => ?_)
  refine Q.r ?_; (repeat (intro b1; refine Q.r ?_))
  refine swp_loop (σ := Nat × Bool × List (Int × Bool)) (fun s => [(0, .int .i64 dim), (5, .map (some b)), (25, .slice a ops.length c), (26, .int .i64 ops.length), (6, .bool s.2.1), (27, .int .i64 s.1)])
    (fun s => mpO U64 Value.bool b s.2.2 :: A) (fun s => s.1 ≤ ops.length ∧ keysOK s.2.2 ∧ (∀ y, lkL s.2.2 y = if y ∈ (ops.take s.1).map (·.id) then some true else none) ∧ s.2.1 = !decide (((ops.take s.1).map (·.id)).Nodup) ∧ (ops.take s.1).any (fun o => badO dim o.abs) = false)
    (fun s => ops.length - s.1) (0, false, []) ⟨rfl, rfl, rfl, rfl, rfl, rfl, trivial⟩ (Ent.refl _) ⟨by omega, by simp [keysOK], by intro y; simp [lkL], by simp, by simp⟩ ?_
  rintro ⟨k, tw, m⟩ ⟨k1, k2, k3, k4, k5⟩
  dsimp only at k1 k2 k3 k4 k5 ⊢
  by_cases hlt : k < ops.length
  · obtain ⟨o, ho⟩ := mem_get hlt
    have hmo : o ∈ ops := List.mem_of_getElem? ho
    have hlen := hv o hmo
    obtain ⟨b2, o2, rfl, hr⟩ := RdS.elem (g := OV.cells) (fun _ => rfl) h.1 ho rfl
    have hbad : badO dim o.abs = true → (ops.map OV.abs).any (badO dim) = true := fun hb => List.any_eq_true.2 ⟨o.abs, List.mem_map_of_mem hmo, hb⟩
    have hall : (ops.map OV.abs).any (badO dim) = true ↔ (ops.any fun o => badO dim o.abs) = true := by rw [List.any_map]; rfl
    repeat (first | (refine GQ.y ?_; refine Q.y ?_) | refine Q.go ?_ | (refine GQ.g ?_; refine Q.gq ?_) | (refine GQ.s ?_; refine Q.st ?_) | (refine GQ.a ?_; refine Q.al (fun b1 => ?_)))
    refine Q.ct rfl ?_
    repeat (first | (refine GQ.y ?_; refine Q.y ?_) | refine Q.go ?_ | (refine GQ.g ?_; refine Q.gq ?_) | (refine GQ.s ?_; refine Q.st ?_) | (refine GQ.a ?_; refine Q.al (fun b1 => ?_)))
    refine opsS_cutT (σ := Bool) (fun s => [(0, .int .i64 dim), (5, .map (some b)), (25, .slice (some ⟨b2, o2, none⟩) ops.length c), (26, .int .i64 ops.length), (6, .bool tw), (27, .int .i64 k), (8, .pointer (some ⟨b1, 0, none⟩)), (52, .bool s)])
      (fun s => pt b1 (cl o.cells 57) :: mpO U64 Value.bool b m :: A) (fun s => s = badO dim o.abs) ?_ ?_
    · by_cases c1 : 1099511627776 < o.id
      · refine Q.r ?_; (repeat (intro b1; refine Q.r ?_))
        exact ⟨true, ⟨rfl, rfl, rfl, rfl, rfl, rfl, rfl, rfl, trivial⟩, Ent.refl _, by simp [badO, c1]⟩
      by_cases c2 : 0 < o.vec.length
      · refine Q.r ?_; (repeat (intro b1; refine Q.r ?_))
        refine S.cr rfl (Right_spec o.a o.c o.vec _ ((h.2 o hmo).sub) (by omega)) ?_
        rintro _ _ ⟨rfl, rfl⟩
        cases hrt : rightV o.vec with
        | false =>
          refine Q.r ?_; (repeat (intro b1; refine Q.r ?_))
          exact ⟨true, ⟨rfl, rfl, rfl, rfl, rfl, rfl, rfl, rfl, trivial⟩, Ent.refl _, by simp [badO, c1, c2, hrt]⟩
        | true =>
          refine Q.r ?_; (repeat (intro b1; refine Q.r ?_))
          exact ⟨_, ⟨rfl, rfl, rfl, rfl, rfl, rfl, rfl, rfl, trivial⟩, Ent.refl _, by simp [badO, c1, c2, hrt]⟩
      · refine Q.r ?_; (repeat (intro b1; refine Q.r ?_))
        exact ⟨false, ⟨rfl, rfl, rfl, rfl, rfl, rfl, rfl, rfl, trivial⟩, Ent.refl _, by simp [badO, c1, c2]⟩
    intro s hs
    cases s with
    | true =>
      rw [if_pos (hbad hs.symm)]
      refine Q.r ?_; (repeat (intro b1; refine Q.r ?_))
      exact N.r1 (RV.tmp rfl RV.nil) (Ent.drop (Ent.drop (Ent.refl _))) ⟨rfl, rfl⟩
    | false =>
      have hex : swp Tryd.prog Tryd.f36.ntmps Code.skip (fun _ _ _ => True) e0 [] := swp_skip trivial
      clear hex hbad hall
      have htk : (ops.take (k + 1)).map (·.id) = (ops.take k).map (·.id) ++ [o.id] := by rw [take_snoc ho, List.map_append]; rfl
      have hnd : ((ops.take (k + 1)).map (·.id)).Nodup ↔ ((ops.take k).map (·.id)).Nodup ∧ o.id ∉ (ops.take k).map (·.id) := by
        rw [htk, List.nodup_append]
        constructor
        · rintro ⟨a1, _, a2⟩
          exact ⟨a1, fun hm => a2 _ hm _ (by simp) rfl⟩
        · rintro ⟨a1, a2⟩
          exact ⟨a1, by simp, fun x hx y hy e => by simp at hy; subst hy; exact a2 (e ▸ hx)⟩
      have hm' : ∀ y, lkL (putL m o.id true) y = if y ∈ (ops.take (k + 1)).map (·.id) then some true else none := fun y => by
        rw [lkL_put k2, htk, k3]
        by_cases hy : y = o.id
        · subst hy; simp
        · simp [hy]
      have hb5 : (ops.take (k + 1)).any (fun o => badO dim o.abs) = false := by
        rw [take_snoc ho, List.any_append, k5, List.any_cons, ← hs]; rfl
      cases tw with
      | true =>
        have hd0 : ¬ ((ops.take k).map (·.id)).Nodup := fun hh => by rw [decide_eq_true hh] at k4; cases k4
        repeat (first | (refine GQ.y ?_; refine Q.y ?_) | refine Q.go ?_ | (refine GQ.g ?_; refine Q.gq ?_) | (refine GQ.s ?_; refine Q.st ?_) | (refine GQ.a ?_; refine Q.al (fun b1 => ?_)))
        refine S.mu rfl rfl rfl ?_
        repeat (first | (refine GQ.y ?_; refine Q.y ?_) | refine Q.go ?_ | (refine GQ.g ?_; refine Q.gq ?_) | (refine GQ.s ?_; refine Q.st ?_) | (refine GQ.a ?_; refine Q.al (fun b1 => ?_)))
        exact ⟨(k + 1, true, putL m o.id true), ⟨rfl, rfl, rfl, rfl, rfl, rfl, trivial⟩, Ent.drop (Ent.refl _), ⟨by dsimp only; omega, putL_ok k2 _ _, hm', by rw [decide_eq_false (fun hh => hd0 (hnd.1 hh).1)]; rfl, hb5⟩, by dsimp only; omega⟩
      | false =>
        have hd0 : ((ops.take k).map (·.id)).Nodup := by
          by_cases hh : ((ops.take k).map (·.id)).Nodup
          · exact hh
          · rw [decide_eq_false hh] at k4; cases k4
        repeat (first | (refine GQ.y ?_; refine Q.y ?_) | refine Q.go ?_ | (refine GQ.g ?_; refine Q.gq ?_) | (refine GQ.s ?_; refine Q.st ?_) | (refine GQ.a ?_; refine Q.al (fun b1 => ?_)))
        refine S.y (Y.lk false rfl rfl (fun w => Tryd.zeroValue4 w)) ?_
        rw [k3]
        by_cases hin : o.id ∈ (ops.take k).map (·.id)
        · rw [if_pos hin]
          repeat (first | (refine GQ.y ?_; refine Q.y ?_) | refine Q.go ?_ | (refine GQ.g ?_; refine Q.gq ?_) | (refine GQ.s ?_; refine Q.st ?_) | (refine GQ.a ?_; refine Q.al (fun b1 => ?_)))
          refine S.mu rfl rfl rfl ?_
          repeat (first | (refine GQ.y ?_; refine Q.y ?_) | refine Q.go ?_ | (refine GQ.g ?_; refine Q.gq ?_) | (refine GQ.s ?_; refine Q.st ?_) | (refine GQ.a ?_; refine Q.al (fun b1 => ?_)))
          exact ⟨(k + 1, true, putL m o.id true), ⟨rfl, rfl, rfl, rfl, rfl, rfl, trivial⟩, Ent.drop (Ent.refl _), ⟨by dsimp only; omega, putL_ok k2 _ _, hm', by rw [decide_eq_false (fun hh => (hnd.1 hh).2 hin)]; rfl, hb5⟩, by dsimp only; omega⟩
        · rw [if_neg hin]
          repeat (first | (refine GQ.y ?_; refine Q.y ?_) | refine Q.go ?_ | (refine GQ.g ?_; refine Q.gq ?_) | (refine GQ.s ?_; refine Q.st ?_) | (refine GQ.a ?_; refine Q.al (fun b1 => ?_)))
          refine S.mu rfl rfl rfl ?_
          repeat (first | (refine GQ.y ?_; refine Q.y ?_) | refine Q.go ?_ | (refine GQ.g ?_; refine Q.gq ?_) | (refine GQ.s ?_; refine Q.st ?_) | (refine GQ.a ?_; refine Q.al (fun b1 => ?_)))
          exact ⟨(k + 1, false, putL m o.id true), ⟨rfl, rfl, rfl, rfl, rfl, rfl, trivial⟩, Ent.drop (Ent.refl _), ⟨by dsimp only; omega, putL_ok k2 _ _, hm', by rw [decide_eq_true (hnd.2 ⟨hd0, hin⟩)]; rfl, hb5⟩, by dsimp only; omega⟩
  · have hke : k = ops.length := by omega
    subst hke
    rw [List.take_length] at k4 k5
    rw [if_neg (by rw [List.any_map]; show ¬ (ops.any fun o => badO dim o.abs) = true; rw [k5]; exact Bool.false_ne_true)]
    have hmm : (ops.map OV.abs).map (·.1) = ops.map (·.id) := by rw [List.map_map]; rfl
    rw [hmm]
    by_cases hnd : (ops.map (·.id)).Nodup
    · rw [if_pos hnd]
      simp only [hnd, decide_true, Bool.not_true] at k4
      subst k4
      refine Q.r ?_; (repeat (intro b1; refine Q.r ?_))
      exact N.r1 (RV.tmp rfl RV.nil) (Ent.drop (Ent.refl _)) ⟨rfl, rfl⟩
    · rw [if_neg hnd]
      simp only [hnd, decide_false, Bool.not_false] at k4
      subst k4
      refine Q.r ?_; (repeat (intro b1; refine Q.r ?_))
      exact N.r1 (RV.tmp rfl RV.nil) (Ent.drop (Ent.refl _)) ⟨rfl, rfl⟩
end Go.Proofs.YtiampehfpgcogaaDoor
namespace Go.SX
open Go
section
variable {P : Program} {n : Nat} {ops rest : List Oper} {Q : Post} {f : Env} {A L : List HP} {d : Tmp} {ty : TypeId} {pos : String} {af : Array Edge}
theorem Y.shrI {x y : Operand} {t t' : TypeId} {k k' : IntKind} {a : Int} {b : Nat} (hx : ev f x = some (.int k a)) (hy : ev f y = some (.int k' (b : Int))) (hb : b ≤ k.bits) : YieldS P n ops ⟨some d, .binOp .shr t x y t', ty, pos, af, none⟩ f A (.int k (a.fdiv (2 ^ b))) :=
  Y.of (fun _ w s => by
    have e1 : ¬ ((b : Int) < 0) := by omega
    have e2 : Min.min b k.bits = b := Nat.min_eq_left hb
    simp [execOp, s.eval hx, s.eval hy, eqGuard, binOp, Op.shift, e1, e2])
theorem Y.shlI {x y : Operand} {t t' : TypeId} {k k' : IntKind} {a : Int} {b : Nat} (hx : ev f x = some (.int k a)) (hy : ev f y = some (.int k' (b : Int))) (hb : b ≤ k.bits) : YieldS P n ops ⟨some d, .binOp .shl t x y t', ty, pos, af, none⟩ f A (.int k (k.wrap (a * 2 ^ b))) :=
  Y.of (fun _ w s => by
    have e1 : ¬ ((b : Int) < 0) := by omega
    have e2 : Min.min b k.bits = b := Nat.min_eq_left hb
    have e4 : (Op.shift .shl k a k' (b : Int)).run P w = .ok (.int k (k.wrap (a * 2 ^ b))) w := by
      unfold Op.shift
      rw [if_neg e1]
      simp only [Int.toNat_natCast, e2, Sem.run_pure]
    simp [execOp, s.eval hx, s.eval hy, eqGuard, binOp, e4])
end
end Go.SX
namespace Go.Proofs.YtiampehfpgcogaaDoor
open Go Go.SX
attribute [local irreducible] swp opsS thenS blockS retS CallsS St Ent YieldS anyS drawS
def numB (n : Nat) : List UInt8 := if h : n < 128 then [UInt8.ofNat n] else UInt8.ofNat (n % 128 + 128) :: numB (n / 128)
termination_by n
def numI (z : Int) : List UInt8 := if z < 0 then [UInt8.ofNat (z % 256).toNat] else numB z.toNat
def zzI (n : Int) : Int := IntKind.u64.wrap (IntKind.u32.wrap (((BitVec.ofInt IntKind.u32.bits (IntKind.u32.wrap (IntKind.i32.wrap (n * 2 ^ 1)))) ^^^ (BitVec.ofInt IntKind.u32.bits (IntKind.u32.wrap (n.fdiv (2 ^ 31))))).toNat : Int))
def vecI (v : List Int) : List UInt8 := numI (v.length : Int) ++ v.flatMap fun n => numI (zzI n)
end Go.Proofs.YtiampehfpgcogaaDoor
namespace Go.Proofs.YtiampehfpgcogaaDoor
open Go Go.SX
attribute [local irreducible] swp opsS thenS blockS retS CallsS St Ent YieldS anyS drawS
structure VS where
  dim : Int
  ch : List (Int × VL)
  its : List (Int × Int × VL)
  mark : Int
abbrev CR := Int × Nat × VL
structure VOK (M : Nat → Option Obj) (st : VS) (cs : List CR) (is : List IV) : Prop where
  ch : cs.map (fun c => (c.1, c.2.2)) = st.ch
  its : is.map IV.abs = st.its
  ok : ∀ i ∈ is, okI M i
  k1 : keysOK st.ch
  k2 : keysOK st.its
section
variable {n : Nat} {ops rest : List Oper} {cd : Code} {Q : Post} {f : Env} {L L0 : List HP} {st : VS}
end
def opsLe (st : VS) : Prop := ∀ i ∈ st.its, i.2.2.length ≤ 1000000
theorem VOK.ops {M : Nat → Option Obj} {st : VS} {cs : List CR} {is : List IV} (h : VOK M st cs is) (hl : opsLe st) : ∀ i ∈ is, i.ops.length ≤ 1000000 := fun i hi => by
  have := hl i.abs (by rw [← h.its]; exact List.mem_map_of_mem hi)
  simpa using this
end Go.Proofs.YtiampehfpgcogaaDoor
namespace Go.Proofs.YtiampehfpgcogaaDoor
open Go Go.SX
attribute [local irreducible] swp opsS thenS blockS retS CallsS St Ent YieldS anyS drawS
def vecsH (us : List OV) : HP := bodV 21 (us.map fun o => (o.a, o.c, o.vec.map I32))
theorem vecs_snoc {us : List OV} {o : OV} {m : Nat} {L : List HP} (hm : m = o.vec.length) : Ent (slO 21 1 o.a m o.c (o.vec.map I32) :: vecsH us :: L) (vecsH (us ++ [o]) :: L) := by
  unfold vecsH
  rw [List.map_append, List.map_cons, List.map_nil]
  exact bodV_snoc (by simp [hm])
theorem vecs_abs {L L0 : List HP} {M : Nat → Option Obj} [hp : PickM L M L0] : ∀ us : List OV, Ent (vecsH us :: L) (exH (fun M' => allH [pureH (leM M M' ∧ okR M' us), roM M']) :: L0) := by
  intro us
  induction us generalizing M L with
  | nil =>
    refine Ent.drop (hp.ent.trans ?_)
    refine Ent.trans ?_ (Ent.shut_ex M)
    refine Ent.trans ?_ Ent.shut_all
    exact Ent.shut_pure ⟨leM.refl M, fun o ho => by cases ho⟩
  | cons o us ih =>
    have h1 : Ent (vecsH (o :: us) :: L) (slO 21 1 o.a o.vec.length o.c (o.vec.map I32) :: vecsH us :: L) := by
      unfold vecsH
      exact bodV_out' (p := []) (by simp)
    refine h1.trans ?_
    have hp2 : PickM (vecsH us :: L) M (vecsH us :: L0) := inferInstance
    refine (Ent.absorb (h := hp2)).trans ?_
    refine Ent.ex fun M1 => Ent.open_all.trans (Ent.pure fun hs => ?_)
    refine Ent.trans (Ent.perm (.swap _ _ _)) ?_
    refine (ih (M := M1) (L := roM M1 :: L0) (hp := inferInstance)).trans ?_
    refine Ent.ex fun M2 => Ent.open_all.trans (Ent.pure fun hs2 => ?_)
    refine Ent.trans ?_ (Ent.shut_ex M2)
    refine Ent.trans ?_ Ent.shut_all
    refine Ent.shut_pure ⟨hs.1.trans hs2.1, fun u hu => ?_⟩
    rcases List.mem_cons.1 hu with rfl | hu
    · exact hs.2.mono hs2.1
    · exact hs2.2 u hu
theorem swp_absV (us : List OV) {n : Nat} {cd : Code} {Q : Post} {f : Env} {L L0 L1 : List HP} {M : Nat → Option Obj} [h : Pick (vecsH us) L L0] [h1 : PickM L0 M L1] (hk : ∀ M', leM M M' → okR M' us → swp Tryd.prog n cd Q f (roM M' :: L1)) : swp Tryd.prog n cd Q f L :=
  swp_ent (h.ent.trans (vecs_abs us)) (swp_ex fun M' => swp_all (swp_pure fun hh => hk M' hh.1 hh.2))
theorem lk_none' {κ α : Type} [DecidableEq κ] {m : List (κ × α)} {x : κ} (h : lkL m x = none) : ∀ u ∈ m, u.1 ≠ x := fun u hu e => by
  unfold lkL at h
  rw [Option.map_eq_none_iff, List.find?_eq_none] at h
  exact h u hu (by simpa using e)
def lockE (st : VS) (txn after : Int) (ops : VL) : Int :=
  if 1099511627776 < after then 1 else if checkV st.dim ops ≠ 0 then checkV st.dim ops else if (lkL st.its txn).isSome then 7 else if ops.any fun o => st.its.any fun i => holdsV i.2.2 o.1 then 11 else 0
def lockS (st : VS) (txn after : Int) (ops : VL) : VS := if lockE st txn after ops = 0 then { st with its := st.its ++ [(txn, after, ops)] } else st
end Go.Proofs.YtiampehfpgcogaaDoor
namespace Go.Proofs.YtiampehfpgcogaaDoor
open Go Go.SX
attribute [local irreducible] swp opsS thenS blockS retS CallsS St Ent YieldS anyS drawS
def chV (ch : List (Int × VL)) (id : Int) : VL := (lkL ch id).getD []
def putC (s : Int) (ch : List (Int × VL)) (o : Int × List Int) : List (Int × VL) := putL ch o.1 (chV ch o.1 ++ [(s, o.2)])
def applyC (s : Int) (ch : List (Int × VL)) (ops : VL) : List (Int × VL) := ops.foldl (putC s) ch
def applyE (st : VS) (txn s : Int) : Int :=
  match lkL st.its txn with
  | none => if s = 0 ∨ 1099511627776 < s then 1 else 6
  | some i => if s = 0 ∨ 1099511627776 < s ∨ s ≤ i.1 then 1 else if i.2.any fun o => decide (s ≤ lastS (chV st.ch o.1)) then 7 else if s ≤ st.mark then 12 else 0
def applyS (st : VS) (txn s : Int) : VS :=
  match lkL st.its txn with
  | none => st
  | some i => if applyE st txn s = 0 then { st with ch := applyC s st.ch i.2, its := delL st.its txn } else st
structure WF (st : VS) (n : Nat) : Prop where
  d1 : 1 ≤ st.dim
  d2 : st.dim ≤ 8
  il : st.its.length ≤ n
  io : ∀ i ∈ st.its, i.2.2.length ≤ 16 ∧ (i.2.2.map (·.1)).Nodup ∧ ∀ o ∈ i.2.2, o.2.length ≤ 8 ∧ (0 < o.2.length → rightV o.2 = true)
  cl : st.ch.length ≤ 16 * n
  co : ∀ c ∈ st.ch, sortedV c.2 ∧ c.2.length ≤ n ∧ ∀ v ∈ c.2, v.2.length ≤ 8
theorem WF.ops {st : VS} {n : Nat} (h : WF st n) : opsLe st := fun i hi => by have := (h.io i hi).1; omega
theorem lk_memL {κ α : Type} [DecidableEq κ] {m : List (κ × α)} {x : κ} {a : α} (h : lkL m x = some a) : (x, a) ∈ m := by
  unfold lkL at h
  obtain ⟨p, hp, hx⟩ := Option.map_eq_some_iff.1 h
  have h1 := List.mem_of_find?_eq_some hp
  have h2 := List.find?_some hp
  have h3 : p.1 = x := by simpa using h2
  subst hx h3
  exact h1
theorem putL_ok' {ch : List (Int × VL)} (h : keysOK ch) (s : Int) (o : Int × List Int) : keysOK (putC s ch o) := putL_ok h _ _
theorem applyC_ok {s : Int} : ∀ {ops : VL} {ch : List (Int × VL)}, keysOK ch → keysOK (applyC s ch ops)
  | [], _, h => h
  | o :: ops, _, h => applyC_ok (ops := ops) (putL_ok' h s o)
theorem applyC_len {s : Int} : ∀ {ops : VL} {ch : List (Int × VL)}, keysOK ch → (applyC s ch ops).length ≤ ch.length + ops.length
  | [], _, _ => Nat.le_refl _
  | o :: ops, ch, h => by
    have h1 := applyC_len (s := s) (ops := ops) (putL_ok' h s o)
    have h2 : (putC s ch o).length ≤ ch.length + 1 := by
      unfold putC
      rcases keyCase ch h o.1 with ⟨p, b, q, rfl, hp, hq⟩ | hn
      · rw [putL_mid hp hq]; simp
      · rw [putL_none hn]; simp
    show (applyC s (putC s ch o) ops).length ≤ _
    simp only [List.length_cons]
    omega
structure AtC (ch : List (Int × VL)) (id : Int) (p q : List CR) (b : Nat) (vs : VL) : Prop where
  hv : vs = chV ch id
  hp : ∀ u ∈ p, u.1 ≠ id
  hq : ∀ u ∈ q, u.1 ≠ id
  put : ∀ w, (p ++ (id, b, w) :: q).map (fun c => (c.1, c.2.2)) = putL ch id w
theorem AtC.some {p q : List CR} {id : Int} {b : Nat} {vs : VL} (hp : ∀ u ∈ p, u.1 ≠ id) (hq : ∀ u ∈ q, u.1 ≠ id) : AtC ((p ++ (id, b, vs) :: q).map fun c => (c.1, c.2.2)) id p q b vs := by
  have h1 : ∀ u ∈ p.map (fun c : CR => (c.1, c.2.2)), u.1 ≠ id := fun u hu => by obtain ⟨w, hw, rfl⟩ := List.mem_map.1 hu; exact hp w hw
  have h2 : ∀ u ∈ q.map (fun c : CR => (c.1, c.2.2)), u.1 ≠ id := fun u hu => by obtain ⟨w, hw, rfl⟩ := List.mem_map.1 hu; exact hq w hw
  refine ⟨?_, hp, hq, fun w => ?_⟩
  · unfold chV
    rw [List.map_append, List.map_cons, lkL_mid h1]; rfl
  · rw [List.map_append, List.map_append, List.map_cons, List.map_cons, putL_mid h1 h2]
theorem AtC.none {cs : List CR} {id : Int} {b : Nat} (hn : ∀ u ∈ cs, u.1 ≠ id) : AtC (cs.map fun c => (c.1, c.2.2)) id cs [] b [] := by
  have h1 : ∀ u ∈ cs.map (fun c : CR => (c.1, c.2.2)), u.1 ≠ id := fun u hu => by obtain ⟨w, hw, rfl⟩ := List.mem_map.1 hu; exact hn w hw
  refine ⟨?_, hn, by simp, fun w => ?_⟩
  · unfold chV
    rw [lkL_none h1]; rfl
  · rw [List.map_append, putL_none h1]; rfl
end Go.Proofs.YtiampehfpgcogaaDoor
namespace Go.Proofs.YtiampehfpgcogaaDoor
open Go Go.SX
attribute [local irreducible] swp opsS thenS blockS retS CallsS St Ent YieldS anyS drawS
attribute [local irreducible] opsI
end Go.Proofs.YtiampehfpgcogaaDoor
namespace Go.Proofs.YtiampehfpgcogaaDoor
open Go Go.SX
attribute [local irreducible] swp opsS thenS blockS retS CallsS St Ent YieldS anyS drawS
attribute [local irreducible] ar
abbrev AR (bk : Nat) (d : Array Int) (rs : List Value) : HP := pt bk (cl (ar .u64 d rs) 30)
abbrev SV (bk n c : Nat) : Value := .slice (some ⟨bk, 0, none⟩) n c
theorem Less_spec (x y : Int) (L : List HP) : CallsS Tryd.prog 92 [.int .u64 x, .int .u64 y] L (fun v L' => v = .bool (Sort.ltInt x y) ∧ L' = L) := by
  have nan : ∀ z, CallsS Tryd.prog 104 [.int .u64 z] L (fun v L' => v = .bool false ∧ L' = L) := fun z => by
    refine CallsS.of_body Tryd.func104 rfl rfl rfl ?_
    refine Q.r ?_; (repeat (intro b1; refine Q.r ?_))
    exact N.r1 (RV.tmp rfl RV.nil) (Ent.refl _) ⟨by simp [packV], rfl⟩
  refine CallsS.of_body Tryd.func92 rfl rfl rfl ?_
  refine Q.r ?_; (repeat (intro b1; refine Q.r ?_))
  refine S.cr rfl (nan x) ?_
  rintro _ _ ⟨rfl, rfl⟩
  refine Q.r ?_; (repeat (intro b1; refine Q.r ?_))
  exact N.r1 (RV.tmp rfl RV.nil) (Ent.refl _) ⟨rfl, rfl⟩
set_option maxHeartbeats 4000000 in
theorem insertionSort_spec (bk n c a b : Nat) (d : Array Int) (rs : List Value) (L : List HP) (hd : d.size = n) (ha : a ≤ n) (hb : b ≤ n) (hn : n ≤ 4611686018427387904) :
    CallsS Tryd.prog 86 [SV bk n c, .int .i64 a, .int .i64 b] (AR bk d rs :: L) (fun v L' => v = .tuple #[] ∧ L' = AR bk (Sort.insertionSort Sort.ltInt d a b) rs :: L) := by
  refine CallsS.of_body Tryd.func86 rfl rfl rfl ?_
  refine Q.rn ?_; (repeat (intro b1; refine Q.rn ?_))
  refine swp_loop (σ := Nat × Array Int) (fun s => [(0, SV bk n c), (1, .int .i64 a), (2, .int .i64 b), (6, .int .i64 s.1)]) (fun s => AR bk s.2 rs :: L)
    (fun s => a + 1 ≤ s.1 ∧ s.1 ≤ n + 1 ∧ s.2.size = n ∧ Sort.insOuter Sort.ltInt a b s.1 s.2 = Sort.insertionSort Sort.ltInt d a b) (fun s => b - s.1) (a + 1, d) ⟨rfl, rfl, rfl, rfl, trivial⟩ (by exact Go.SX.Ent.go) ⟨Nat.le_refl _, by dsimp only; omega, hd, rfl⟩ ?_
  rintro ⟨i, e⟩ ⟨h1, h2, h3, h4⟩
  dsimp only at h1 h2 h3 h4 ⊢
  rw [Sort.insOuter] at h4
  by_cases hi : i < b
  · rw [if_pos hi] at h4
    refine Q.rn ?_; (repeat (intro b1; refine Q.rn ?_))
    refine swp_loop (σ := Nat × Array Int) (fun s => [(0, SV bk n c), (1, .int .i64 a), (2, .int .i64 b), (6, .int .i64 i), (7, .int .i64 s.1)]) (fun s => AR bk s.2 rs :: L)
      (fun s => s.1 ≤ i ∧ s.2.size = n ∧ Sort.insInner Sort.ltInt a s.1 s.2 = Sort.insInner Sort.ltInt a i e) (fun s => s.1) (i, e) ⟨rfl, rfl, rfl, rfl, rfl, trivial⟩ (by exact Go.SX.Ent.go) ⟨Nat.le_refl _, h3, rfl⟩ ?_
    rintro ⟨j, g⟩ ⟨g1, g2, g3⟩
    dsimp only at g1 g2 g3 ⊢
    by_cases hj : a < j
    · obtain ⟨k, rfl⟩ : ∃ k, j = k + 1 := ⟨j - 1, by omega⟩
      rw [Sort.insInner, show decide (k + 1 > a) = true by simpa using hj, Bool.true_and] at g3
      refine Q.rn ?_; (repeat (intro b1; refine Q.rn ?_))
      refine Q.dgo [true] [13] [] [0, 1, 2, 3, 4, 5, 6, 7, 8, 9, 10, 11, 12, 13, 14] ?_
      refine Q.rdn ?_; (repeat (intro b1; refine Q.rdn ?_))
      refine D.e rfl rfl rfl ?_
      refine S.guard rfl ?_
      refine S.cr rfl (Less_spec _ _ _) ?_
      rintro _ M ⟨rfl, rfl⟩
      cases hl : Sort.ltInt g[k + 1]! g[k]! with
      | false =>
        rw [show k + 1 - 1 = k from rfl, hl]
        rw [hl] at g3
        refine Q.rn ?_; (repeat (intro b1; refine Q.rn ?_))
        refine Q.rdn ?_; (repeat (intro b1; refine Q.rdn ?_))
        refine Q.rn ?_; (repeat (intro b1; refine Q.rn ?_))
        refine ⟨(i + 1, g), ⟨rfl, rfl, rfl, rfl, trivial⟩, by exact Go.SX.Ent.go, ⟨by dsimp only; omega, by dsimp only; omega, g2, ?_⟩, by dsimp only; omega⟩
        simp only [Bool.false_eq_true, if_false] at g3
        rw [g3]; exact h4
      | true =>
        rw [show k + 1 - 1 = k from rfl, hl]
        rw [hl] at g3
        refine Q.rn ?_; (repeat (intro b1; refine Q.rn ?_))
        refine Q.rdn ?_; (repeat (intro b1; refine Q.rdn ?_))
        refine Q.rn ?_; (repeat (intro b1; refine Q.rn ?_))
        refine Q.dgo [true] [15, 17] [15] [0, 1, 2, 3, 4, 5, 6, 7, 8, 9, 10, 11, 12, 13, 14, 15, 16, 17] ?_
        refine Q.rdn ?_; (repeat (intro b1; refine Q.rdn ?_))
        refine Q.dc rfl rfl rfl rfl ?_
        refine Q.rn ?_; (repeat (intro b1; refine Q.rn ?_))
        refine Q.rdn ?_; (repeat (intro b1; refine Q.rdn ?_))
        refine D.e rfl rfl rfl ?_
        refine Q.rn ?_; (repeat (intro b1; refine Q.rn ?_))
        refine Q.rdn ?_; (repeat (intro b1; refine Q.rdn ?_))
        refine Q.rn ?_; (repeat (intro b1; refine Q.rn ?_))
        simp only [if_true] at g3
        exact ⟨(k, Sort.swp g (k + 1) k), ⟨rfl, rfl, rfl, rfl, rfl, trivial⟩, Ent.refl _, ⟨by dsimp only; omega, by rw [swp_size]; exact g2, g3⟩, by dsimp only; omega⟩
    · have hgg : Sort.insInner Sort.ltInt a j g = g := by
        cases j with
        | zero => rfl
        | succ j => rw [Sort.insInner, show decide (j + 1 > a) = false by simpa using hj]; simp
      rw [hgg] at g3
      refine Q.rn ?_; (repeat (intro b1; refine Q.rn ?_))
      refine Q.dgo [true] [13] [] [0, 1, 2, 3, 4, 5, 6, 7, 8, 9, 10, 11, 12, 13, 14] ?_
      refine Q.rdn ?_; (repeat (intro b1; refine Q.rdn ?_))
      refine Q.rn ?_; (repeat (intro b1; refine Q.rn ?_))
      exact ⟨(i + 1, g), ⟨rfl, rfl, rfl, rfl, trivial⟩, Ent.refl _, ⟨by dsimp only; omega, by dsimp only; omega, g2, by dsimp only; rw [g3]; exact h4⟩, by dsimp only; omega⟩
  · rw [if_neg hi] at h4
    subst h4
    refine Q.rn ?_; (repeat (intro b1; refine Q.rn ?_))
    exact N.n0 RV.nil (Ent.refl _) ⟨rfl, rfl⟩
end Go.Proofs.YtiampehfpgcogaaDoor
namespace Go.Proofs.YtiampehfpgcogaaDoor
open Go Go.SX
attribute [local irreducible] swp opsS thenS blockS retS CallsS St Ent YieldS anyS drawS
attribute [local irreducible] ar
set_option maxHeartbeats 8000000 in
theorem siftDown_spec (bk n c lo hi first : Nat) (d : Array Int) (rs : List Value) (L : List HP) (hd : d.size = n) (hlo : lo ≤ hi) (hb : first + hi ≤ n) (hn : n ≤ 17592186044416) :
    CallsS Tryd.prog 101 [SV bk n c, .int .i64 lo, .int .i64 hi, .int .i64 first] (AR bk d rs :: L) (fun v L' => v = .tuple #[] ∧ L' = AR bk (Sort.siftDown Sort.ltInt hi first lo d) rs :: L) := by
  refine CallsS.of_body Tryd.func101 rfl rfl rfl ?_
  refine Q.rn ?_; (repeat (intro b1; refine Q.rn ?_))
  refine swp_loop (σ := Nat × Array Int) (fun s => [(0, SV bk n c), (2, .int .i64 hi), (3, .int .i64 first), (8, .int .i64 s.1)]) (fun s => AR bk s.2 rs :: L)
    (fun s => s.1 ≤ hi ∧ s.2.size = n ∧ Sort.siftDown Sort.ltInt hi first s.1 s.2 = Sort.siftDown Sort.ltInt hi first lo d) (fun s => hi - s.1) (lo, d) ⟨rfl, rfl, rfl, rfl, trivial⟩ (by exact Go.SX.Ent.go) ⟨hlo, hd, rfl⟩ ?_
  rintro ⟨r, e⟩ ⟨h1, h2, h3⟩
  dsimp only at h1 h2 h3 ⊢
  rw [Sort.siftDown] at h3
  by_cases hr : 2 * r + 1 ≥ hi
  · rw [dif_pos hr] at h3
    subst h3
    refine Q.rn ?_; (repeat (intro b1; refine Q.rn ?_))
    exact N.n0 RV.nil (Ent.refl _) ⟨rfl, rfl⟩
  rw [dif_neg hr] at h3
  refine Q.rn ?_; (repeat (intro b1; refine Q.rn ?_))
  refine swp_cutT (σ := Bool) (fun s => [(0, SV bk n c), (2, .int .i64 hi), (3, .int .i64 first), (8, .int .i64 r), (9, .int .i64 (2 * r + 1 : Nat)), (36, .bool s)]) (fun s => AR bk e rs :: L)
    (fun s => s = (decide (2 * r + 1 + 1 < hi) && Sort.ltInt e[first + (2 * r + 1)]! e[first + (2 * r + 1) + 1]!)) ?_ ?_
  · by_cases hc : 2 * r + 1 + 1 < hi
    · refine Q.dgo [true] [18] [] [0, 1, 2, 3, 4, 5, 6, 7, 8, 9, 10, 11, 12, 13, 14, 15, 16, 17, 18, 19] ?_
      refine Q.rdn ?_; (repeat (intro b1; refine Q.rdn ?_))
      refine D.e rfl rfl rfl ?_
      refine S.guard rfl ?_
      refine S.cr rfl (Less_spec _ _ _) ?_
      rintro _ M ⟨rfl, rfl⟩
      refine Q.rn ?_; (repeat (intro b1; refine Q.rn ?_))
      refine Q.rdn ?_; (repeat (intro b1; refine Q.rdn ?_))
      first | refine N.tn ?_ | skip
      exact ⟨_, ⟨rfl, rfl, rfl, rfl, rfl, rfl, trivial⟩, Ent.refl _, by simp [hc]⟩
    · refine Q.dgo [true] [18] [] [0, 1, 2, 3, 4, 5, 6, 7, 8, 9, 10, 11, 12, 13, 14, 15, 16, 17, 18, 19] ?_
      refine Q.rdn ?_; (repeat (intro b1; refine Q.rdn ?_))
      first | refine N.tn ?_ | skip
      exact ⟨false, ⟨rfl, rfl, rfl, rfl, rfl, rfl, trivial⟩, Ent.refl _, by simp [hc]⟩
  intro s hs
  refine swp_cutT (σ := Nat) (fun ch => [(0, SV bk n c), (2, .int .i64 hi), (3, .int .i64 first), (8, .int .i64 r), (9, .int .i64 ch)]) (fun _ => AR bk e rs :: L)
    (fun ch => ch < hi ∧ r < ch ∧ (if (!Sort.ltInt e[first + r]! e[first + ch]!) = true then e else Sort.siftDown Sort.ltInt hi first ch (Sort.swp e (first + r) (first + ch))) = Sort.siftDown Sort.ltInt hi first lo d) ?_ ?_
  · rw [← hs] at h3
    cases s with
    | true =>
      have hc : 2 * r + 1 + 1 < hi := by
        by_cases hc : 2 * r + 1 + 1 < hi
        · exact hc
        · simp [hc] at hs
      rw [if_pos rfl, dif_pos (show 2 * r + 2 < hi from hc)] at h3
      refine Q.rn ?_; (repeat (intro b1; refine Q.rn ?_))
      first | refine N.tn ?_ | skip
      exact ⟨2 * r + 1 + 1, ⟨rfl, rfl, rfl, rfl, rfl, trivial⟩, Ent.refl _, hc, by omega, h3⟩
    | false =>
      simp only [Bool.false_eq_true, if_false] at h3
      refine Q.rn ?_; (repeat (intro b1; refine Q.rn ?_))
      first | refine N.tn ?_ | skip
      exact ⟨2 * r + 1, ⟨rfl, rfl, rfl, rfl, rfl, trivial⟩, Ent.refl _, by omega, by omega, h3⟩
  rintro ch ⟨c1, c2, c3⟩
  clear hs h3
  refine Q.rn ?_; (repeat (intro b1; refine Q.rn ?_))
  refine Q.dgo [true] [12] [] [0, 1, 2, 3, 4, 5, 6, 7, 8, 9, 10, 11, 12, 13] ?_
  refine Q.rdn ?_; (repeat (intro b1; refine Q.rdn ?_))
  refine D.e rfl rfl rfl ?_
  refine S.cr rfl (Less_spec _ _ _) ?_
  rintro _ M ⟨rfl, rfl⟩
  cases hl : Sort.ltInt e[first + r]! e[first + ch]! with
  | false =>
    rw [hl] at c3
    simp only [Bool.not_false, if_true] at c3
    subst c3
    refine Q.rn ?_; (repeat (intro b1; refine Q.rn ?_))
    refine Q.rdn ?_; (repeat (intro b1; refine Q.rdn ?_))
    refine Q.rn ?_; (repeat (intro b1; refine Q.rn ?_))
    exact N.r0 RV.nil (Ent.refl _) ⟨rfl, rfl⟩
  | true =>
    rw [hl] at c3
    simp only [Bool.not_true, Bool.false_eq_true, if_false] at c3
    refine Q.rn ?_; (repeat (intro b1; refine Q.rn ?_))
    refine Q.rdn ?_; (repeat (intro b1; refine Q.rdn ?_))
    refine Q.rn ?_; (repeat (intro b1; refine Q.rn ?_))
    refine Q.dgo [true] [21, 23] [21] [0, 1, 2, 3, 4, 5, 6, 7, 8, 9, 10, 11, 12, 13, 14, 15, 16, 17, 18, 19, 20, 21, 22, 23] ?_
    refine Q.rdn ?_; (repeat (intro b1; refine Q.rdn ?_))
    refine Q.dc rfl rfl rfl rfl ?_
    refine Q.rn ?_; (repeat (intro b1; refine Q.rn ?_))
    refine Q.rdn ?_; (repeat (intro b1; refine Q.rdn ?_))
    refine D.e rfl rfl rfl ?_
    refine Q.rn ?_; (repeat (intro b1; refine Q.rn ?_))
    refine Q.rdn ?_; (repeat (intro b1; refine Q.rdn ?_))
    refine Q.rn ?_; (repeat (intro b1; refine Q.rn ?_))
    exact ⟨(ch, Sort.swp e (first + r) (first + ch)), ⟨rfl, rfl, rfl, rfl, trivial⟩, Ent.refl _, ⟨by dsimp only; omega, by rw [swp_size]; exact h2, c3⟩, by dsimp only; omega⟩
theorem siftDown_size : ∀ (hi first root : Nat) (d : Array Int), (Sort.siftDown Sort.ltInt hi first root d).size = d.size := by
  intro hi first root d
  induction h : hi - root using Nat.strongRecOn generalizing root d with
  | _ k ih =>
    rw [Sort.siftDown]
    split
    · rfl
    · split
      · split
        · rfl
        · split
          · rw [ih _ (by omega) _ _ rfl, swp_size]
          · rfl
      · split
        · rfl
        · rw [ih _ (by omega) _ _ rfl, swp_size]
end Go.Proofs.YtiampehfpgcogaaDoor
namespace Go.Proofs.YtiampehfpgcogaaDoor
open Go Go.SX
attribute [local irreducible] swp opsS thenS blockS retS CallsS St Ent YieldS anyS drawS
attribute [local irreducible] ar
set_option maxHeartbeats 8000000 in
theorem heapSort_spec (bk n c a b : Nat) (d : Array Int) (rs : List Value) (L : List HP) (hd : d.size = n) (ha : a < b) (hb : b ≤ n) (hn : n ≤ 17592186044416) :
    CallsS Tryd.prog 87 [SV bk n c, .int .i64 a, .int .i64 b] (AR bk d rs :: L) (fun v L' => v = .tuple #[] ∧ L' = AR bk (Sort.heapSort Sort.ltInt d a b) rs :: L) := by
  refine CallsS.of_body Tryd.func87 rfl rfl rfl ?_
  refine Q.rn ?_; (repeat (intro b1; refine Q.rn ?_))
  have hsub : ∀ k : Nat, ((k + 1 : Nat) : Int) - 1 = (k : Int) := fun k => by omega
  refine swp_cutB (σ := Array Int) (fun _ => [(0, SV bk n c), (6, .int .i64 a), (7, .int .i64 (0 : Nat)), (8, .int .i64 (b - a : Nat))]) (fun e => AR bk e rs :: L)
    (fun e => e.size = n ∧ e = Sort.heapBuild Sort.ltInt (b - a) a ((b - a - 1) / 2 + 1) d) ?_ ?_
  · refine swp_loop (σ := Nat × Array Int) (fun s => [(0, SV bk n c), (6, .int .i64 a), (7, .int .i64 (0 : Nat)), (8, .int .i64 (b - a : Nat)), (9, .int .i64 ((s.1 : Int) - 1))]) (fun s => AR bk s.2 rs :: L)
      (fun s => s.1 ≤ b - a ∧ s.2.size = n ∧ Sort.heapBuild Sort.ltInt (b - a) a s.1 s.2 = Sort.heapBuild Sort.ltInt (b - a) a ((b - a - 1) / 2 + 1) d) (fun s => s.1) ((b - a - 1) / 2 + 1, d) ⟨rfl, rfl, rfl, rfl, congrArg some (congrArg (Value.int .i64) (by omega)), trivial⟩ (by exact Go.SX.Ent.go) ⟨by dsimp only; omega, hd, rfl⟩ ?_
    rintro ⟨k, e⟩ ⟨h1, h2, h3⟩
    dsimp only at h1 h2 h3 ⊢
    cases k with
    | zero =>
      refine Q.rn ?_; (repeat (intro b1; refine Q.rn ?_))
      exact ⟨e, ⟨rfl, rfl, rfl, rfl, trivial⟩, Ent.refl _, h2, h3⟩
    | succ k =>
      rw [hsub]
      refine Q.rn ?_; (repeat (intro b1; refine Q.rn ?_))
      refine S.cr rfl (siftDown_spec bk n c k (b - a) a e rs L h2 (by omega) (by omega) hn) ?_
      rintro _ _ ⟨rfl, rfl⟩
      refine Q.rn ?_; (repeat (intro b1; refine Q.rn ?_))
      exact ⟨(k, _), ⟨rfl, rfl, rfl, rfl, rfl, trivial⟩, Ent.refl _, ⟨by dsimp only; omega, by rw [siftDown_size]; exact h2, h3⟩, by dsimp only; omega⟩
  rintro e ⟨h2, rfl⟩
  refine Q.rn ?_; (repeat (intro b1; refine Q.rn ?_))
  refine swp_loop (σ := Nat × Array Int) (fun s => [(0, SV bk n c), (6, .int .i64 a), (7, .int .i64 (0 : Nat)), (10, .int .i64 ((s.1 : Int) - 1))]) (fun s => AR bk s.2 rs :: L)
    (fun s => s.1 ≤ b - a ∧ s.2.size = n ∧ Sort.heapPop Sort.ltInt a s.1 s.2 = Sort.heapSort Sort.ltInt d a b) (fun s => s.1) (b - a, Sort.heapBuild Sort.ltInt (b - a) a ((b - a - 1) / 2 + 1) d) ⟨rfl, rfl, rfl, congrArg some (congrArg (Value.int .i64) (by omega)), trivial⟩ (by exact Go.SX.Ent.go) ⟨Nat.le_refl _, h2, rfl⟩ ?_
  clear h2
  rintro ⟨k, e⟩ ⟨h1, h2, h3⟩
  dsimp only at h1 h2 h3 ⊢
  cases k with
  | zero =>
    refine Q.rn ?_; (repeat (intro b1; refine Q.rn ?_))
    exact N.n0 RV.nil (Ent.refl _) ⟨rfl, by rw [← h3]; rfl⟩
  | succ k =>
    rw [hsub]
    refine Q.rn ?_; (repeat (intro b1; refine Q.rn ?_))
    refine Q.dgo [true] [17, 19] [17] [0, 1, 2, 3, 4, 5, 6, 7, 8, 9, 10, 11, 12, 13, 14, 15, 16, 17, 18, 19] ?_
    refine Q.rdn ?_; (repeat (intro b1; refine Q.rdn ?_))
    refine Q.dc rfl rfl rfl rfl ?_
    refine Q.rn ?_; (repeat (intro b1; refine Q.rn ?_))
    refine Q.rdn ?_; (repeat (intro b1; refine Q.rdn ?_))
    refine D.e rfl rfl rfl ?_
    refine Q.rn ?_; (repeat (intro b1; refine Q.rn ?_))
    refine Q.rdn ?_; (repeat (intro b1; refine Q.rdn ?_))
    refine Q.rn ?_; (repeat (intro b1; refine Q.rn ?_))
    refine S.cr rfl (siftDown_spec bk n c 0 k a (Sort.swp e a (a + k)) rs L (by rw [swp_size]; exact h2) (by omega) (by omega) hn) ?_
    rintro _ _ ⟨rfl, rfl⟩
    refine Q.rn ?_; (repeat (intro b1; refine Q.rn ?_))
    exact ⟨(k, _), ⟨rfl, rfl, rfl, rfl, trivial⟩, Ent.refl _, ⟨by dsimp only; omega, by rw [siftDown_size, swp_size]; exact h2, h3⟩, by dsimp only; omega⟩
set_option maxHeartbeats 8000000 in
theorem reverseRange_spec (bk n c a b : Nat) (d : Array Int) (rs : List Value) (L : List HP) (hd : d.size = n) (ha : a < b) (hb : b ≤ n) (hn : n ≤ 17592186044416) :
    CallsS Tryd.prog 90 [SV bk n c, .int .i64 a, .int .i64 b] (AR bk d rs :: L) (fun v L' => v = .tuple #[] ∧ L' = AR bk (Sort.reverseRange d a b) rs :: L) := by
  refine CallsS.of_body Tryd.func90 rfl rfl rfl ?_
  refine Q.rn ?_; (repeat (intro b1; refine Q.rn ?_))
  refine swp_loop (σ := Nat × Nat × Array Int) (fun s => [(0, SV bk n c), (6, .int .i64 s.1), (7, .int .i64 s.2.1)]) (fun s => AR bk s.2.2 rs :: L)
    (fun s => s.1 ≤ b ∧ s.2.1 < b ∧ s.2.2.size = n ∧ Sort.reverseLoop s.1 s.2.1 s.2.2 = Sort.reverseRange d a b) (fun s => s.2.1 - s.1) (a, b - 1, d) ⟨rfl, rfl, rfl, trivial⟩ (by exact Go.SX.Ent.go) ⟨by dsimp only; omega, by dsimp only; omega, hd, rfl⟩ ?_
  rintro ⟨i, j, e⟩ ⟨h1, h2, h3, h4⟩
  dsimp only at h1 h2 h3 h4 ⊢
  rw [Sort.reverseLoop] at h4
  by_cases hij : i < j
  · rw [if_pos hij] at h4
    refine Q.rn ?_; (repeat (intro b1; refine Q.rn ?_))
    refine Q.dgo [true] [13, 15] [13] [0, 1, 2, 3, 4, 5, 6, 7, 8, 9, 10, 11, 12, 13, 14, 15] ?_
    refine Q.rdn ?_; (repeat (intro b1; refine Q.rdn ?_))
    refine Q.dc rfl rfl rfl rfl ?_
    refine Q.rn ?_; (repeat (intro b1; refine Q.rn ?_))
    refine Q.rdn ?_; (repeat (intro b1; refine Q.rdn ?_))
    refine D.e rfl rfl rfl ?_
    refine Q.rn ?_; (repeat (intro b1; refine Q.rn ?_))
    refine Q.rdn ?_; (repeat (intro b1; refine Q.rdn ?_))
    refine Q.rn ?_; (repeat (intro b1; refine Q.rn ?_))
    exact ⟨(i + 1, j - 1, Sort.swp e i j), ⟨rfl, rfl, rfl, trivial⟩, Ent.refl _, ⟨by dsimp only; omega, by dsimp only; omega, by rw [swp_size]; exact h3, h4⟩, by dsimp only; omega⟩
  · rw [if_neg hij] at h4
    subst h4
    refine Q.rn ?_; (repeat (intro b1; refine Q.rn ?_))
    exact N.n0 RV.nil (Ent.refl _) ⟨rfl, rfl⟩
end Go.Proofs.YtiampehfpgcogaaDoor
namespace Go.Proofs.YtiampehfpgcogaaDoor
open Go Go.SX
attribute [local irreducible] swp opsS thenS blockS retS CallsS St Ent YieldS anyS drawS
attribute [local irreducible] ar
theorem scanUp_ge (p : Int → Bool) (d : Array Int) (j i : Nat) : i ≤ Sort.scanUp p d j i ∧ (Sort.scanUp p d j i ≤ i ∨ Sort.scanUp p d j i ≤ j + 1) := by
  induction h : j + 1 - i using Nat.strongRecOn generalizing i with
  | _ k ih =>
    rw [Sort.scanUp]
    split
    · rename_i hc
      simp only [Bool.and_eq_true, decide_eq_true_eq] at hc
      have := ih _ (by omega) (i + 1) rfl
      omega
    · omega
theorem scanDown_le (p : Int → Bool) (d : Array Int) (i : Nat) : ∀ j, Sort.scanDown p d i j ≤ j ∧ (i ≤ Sort.scanDown p d i j + 1 ∨ Sort.scanDown p d i j = j)
  | 0 => by simp [Sort.scanDown]
  | j + 1 => by
    rw [Sort.scanDown]
    split
    · rename_i hc
      simp only [Bool.and_eq_true, decide_eq_true_eq] at hc
      have := scanDown_le p d i j
      omega
    · omega
set_option maxHeartbeats 20000000 in
theorem partition_spec (bk n c a b pv : Nat) (d : Array Int) (rs : List Value) (L : List HP) (hd : d.size = n) (ha : a ≤ pv) (hp : pv < b) (hb : b ≤ n) (hn : n ≤ 17592186044416) :
    CallsS Tryd.prog 94 [SV bk n c, .int .i64 a, .int .i64 b, .int .i64 pv] (AR bk d rs :: L)
      (fun v L' => v = .tuple #[.int .i64 (Sort.partition Sort.ltInt d a b pv).1, .bool (Sort.partition Sort.ltInt d a b pv).2.1] ∧ L' = AR bk (Sort.partition Sort.ltInt d a b pv).2.2 rs :: L) := by
  refine CallsS.of_body Tryd.func94 rfl rfl rfl ?_
  refine Q.rn ?_; (repeat (intro b1; refine Q.rn ?_))
  refine Q.dgo [true] [13, 15] [13] [0, 1, 2, 3, 4, 5, 6, 7, 8, 9, 10, 11, 12, 13, 14, 15] ?_; (refine Q.rdn ?_; (repeat (intro b1; refine Q.rdn ?_))); refine Q.dc rfl rfl rfl rfl ?_; (refine Q.rn ?_; (repeat (intro b1; refine Q.rn ?_))); (refine Q.rdn ?_; (repeat (intro b1; refine Q.rdn ?_))); refine D.e rfl rfl rfl ?_; (refine Q.rn ?_; (repeat (intro b1; refine Q.rn ?_))); (refine Q.rdn ?_; (repeat (intro b1; refine Q.rdn ?_))); (refine Q.rn ?_; (repeat (intro b1; refine Q.rn ?_)))
  have he : (Sort.swp d a pv).size = n := by rw [swp_size]; exact hd
  obtain ⟨e, hee⟩ : ∃ e, e = Sort.swp d a pv := ⟨_, rfl⟩
  obtain ⟨i0, hi0⟩ : ∃ i0, i0 = Sort.scanUp (fun x => Sort.ltInt x e[a]!) e (b - 1) (a + 1) := ⟨_, rfl⟩
  obtain ⟨j0, hj0⟩ : ∃ j0, j0 = Sort.scanDown (fun x => !Sort.ltInt x e[a]!) e i0 (b - 1) := ⟨_, rfl⟩
  have hpart : Sort.partition Sort.ltInt d a b pv = (if i0 > j0 then (j0, true, Sort.swp e j0 a) else ((Sort.partLoop Sort.ltInt a (i0 + 1) (j0 - 1) (Sort.swp e i0 j0)).1, false, Sort.swp (Sort.partLoop Sort.ltInt a (i0 + 1) (j0 - 1) (Sort.swp e i0 j0)).2 (Sort.partLoop Sort.ltInt a (i0 + 1) (j0 - 1) (Sort.swp e i0 j0)).1 a)) := by
    subst hee hj0 hi0; rfl
  rw [← hee] at he
  rw [hpart]
  clear hpart
  have bi := scanUp_ge (fun x => Sort.ltInt x e[a]!) e (b - 1) (a + 1)
  have bj := scanDown_le (fun x => !Sort.ltInt x e[a]!) e i0 (b - 1)
  rw [← hi0] at bi
  rw [← hj0] at bj
  refine swp_cutB (σ := Unit) (fun _ => [(0, SV bk n c), (1, .int .i64 a), (10, .int .i64 i0), (11, .int .i64 (b - 1 : Nat))]) (fun _ => AR bk e rs :: L) (fun _ => True) ?_ ?_
  · refine swp_loop (σ := Nat) (fun s => [(0, SV bk n c), (1, .int .i64 a), (10, .int .i64 s), (11, .int .i64 (b - 1 : Nat))]) (fun s => AR bk e rs :: L)
      (fun s => a + 1 ≤ s ∧ Sort.scanUp (fun x => Sort.ltInt x e[a]!) e (b - 1 : Nat) s = i0) (fun s => (b - 1 : Nat) + 1 - s) (a + 1) ⟨rfl, rfl, rfl, rfl, trivial⟩ (by rw [hee]; exact Ent.refl _) ⟨Nat.le_refl _, hi0.symm⟩ ?_
    rintro i ⟨g1, g3⟩
    rw [Sort.scanUp] at g3
    by_cases hi : i ≤ (b - 1 : Nat)
    · refine Q.rn ?_; (repeat (intro b1; refine Q.rn ?_))
      refine Q.dgo [true] [12] [] [0, 1, 2, 3, 4, 5, 6, 7, 8, 9, 10, 11, 12, 13] ?_
      refine Q.rdn ?_; (repeat (intro b1; refine Q.rdn ?_))
      refine D.e rfl rfl rfl ?_
      refine S.guard rfl ?_
      refine S.cr rfl (Less_spec _ _ _) ?_
      rintro _ M ⟨rfl, rfl⟩
      rw [show decide (i ≤ (b - 1 : Nat)) = true by simpa using hi, Bool.true_and] at g3
      cases hl : Sort.ltInt e[i]! e[a]! with
      | true =>
        rw [hl] at g3
        simp only [Bool.not_false, Bool.not_true, if_true] at g3
        refine Q.rn ?_; (repeat (intro b1; refine Q.rn ?_))
        refine Q.rdn ?_; (repeat (intro b1; refine Q.rdn ?_))
        refine Q.rn ?_; (repeat (intro b1; refine Q.rn ?_))
        exact ⟨i + 1, ⟨rfl, rfl, rfl, rfl, trivial⟩, Ent.refl _, ⟨by omega, g3⟩, by omega⟩
      | false =>
        rw [hl] at g3
        simp only [Bool.not_false, Bool.not_true, Bool.false_eq_true, if_false] at g3
        refine Q.rn ?_; (repeat (intro b1; refine Q.rn ?_))
        refine Q.rdn ?_; (repeat (intro b1; refine Q.rdn ?_))
        refine Q.rn ?_; (repeat (intro b1; refine Q.rn ?_))
        exact ⟨(), ⟨rfl, rfl, by rw [g3]; rfl, rfl, trivial⟩, Ent.refl _, trivial⟩
    · rw [show decide (i ≤ (b - 1 : Nat)) = false by simpa using hi, Bool.false_and] at g3
      simp only [Bool.false_eq_true, if_false] at g3
      refine Q.rn ?_; (repeat (intro b1; refine Q.rn ?_))
      refine Q.dgo [true] [12] [] [0, 1, 2, 3, 4, 5, 6, 7, 8, 9, 10, 11, 12, 13] ?_
      refine Q.rdn ?_; (repeat (intro b1; refine Q.rdn ?_))
      refine Q.rn ?_; (repeat (intro b1; refine Q.rn ?_))
      exact ⟨(), ⟨rfl, rfl, by rw [g3]; rfl, rfl, trivial⟩, Ent.refl _, trivial⟩
  rintro _ _
  refine Q.rn ?_; (repeat (intro b1; refine Q.rn ?_))
  refine swp_cutB (σ := Unit) (fun _ => [(0, SV bk n c), (1, .int .i64 a), (10, .int .i64 i0), (11, .int .i64 j0)]) (fun _ => AR bk e rs :: L) (fun _ => True) ?_ ?_
  · refine swp_loop (σ := Nat) (fun s => [(0, SV bk n c), (1, .int .i64 a), (10, .int .i64 i0), (11, .int .i64 s)]) (fun s => AR bk e rs :: L)
      (fun s => s ≤ (b - 1 : Nat) ∧ Sort.scanDown (fun x => !Sort.ltInt x e[a]!) e i0 s = j0) (fun s => s) ((b - 1 : Nat)) ⟨rfl, rfl, rfl, rfl, trivial⟩ (Ent.refl _) ⟨Nat.le_refl _, hj0.symm⟩ ?_
    rintro j ⟨g1, g3⟩
    by_cases hi : i0 ≤ j
    · obtain ⟨k, rfl⟩ : ∃ k, j = k + 1 := ⟨j - 1, by omega⟩
      rw [Sort.scanDown] at g3
      refine Q.rn ?_; (repeat (intro b1; refine Q.rn ?_))
      refine Q.dgo [true] [12] [] [0, 1, 2, 3, 4, 5, 6, 7, 8, 9, 10, 11, 12, 13, 14] ?_
      refine Q.rdn ?_; (repeat (intro b1; refine Q.rdn ?_))
      refine D.e rfl rfl rfl ?_
      refine S.guard rfl ?_
      refine S.cr rfl (Less_spec _ _ _) ?_
      rintro _ M ⟨rfl, rfl⟩
      rw [show decide (i0 ≤ k + 1) = true by simpa using hi, Bool.true_and] at g3
      cases hl : Sort.ltInt e[k + 1]! e[a]! with
      | false =>
        rw [hl] at g3
        simp only [Bool.not_false, Bool.not_true, if_true] at g3
        refine Q.rn ?_; (repeat (intro b1; refine Q.rn ?_))
        refine Q.rdn ?_; (repeat (intro b1; refine Q.rdn ?_))
        refine Q.rn ?_; (repeat (intro b1; refine Q.rn ?_))
        exact ⟨k, ⟨rfl, rfl, rfl, rfl, trivial⟩, Ent.refl _, ⟨by omega, g3⟩, by omega⟩
      | true =>
        rw [hl] at g3
        simp only [Bool.not_false, Bool.not_true, Bool.false_eq_true, if_false] at g3
        refine Q.rn ?_; (repeat (intro b1; refine Q.rn ?_))
        refine Q.rdn ?_; (repeat (intro b1; refine Q.rdn ?_))
        refine Q.rn ?_; (repeat (intro b1; refine Q.rn ?_))
        exact ⟨(), ⟨rfl, rfl, rfl, by rw [← g3]; rfl, trivial⟩, Ent.refl _, trivial⟩
    · have g4 : j = j0 := by
        rw [← g3]
        cases j with
        | zero => rfl
        | succ j => rw [Sort.scanDown, show decide (i0 ≤ j + 1) = false by simpa using hi]; simp
      refine Q.rn ?_; (repeat (intro b1; refine Q.rn ?_))
      refine Q.dgo [true] [12] [] [0, 1, 2, 3, 4, 5, 6, 7, 8, 9, 10, 11, 12, 13, 14] ?_
      refine Q.rdn ?_; (repeat (intro b1; refine Q.rdn ?_))
      refine Q.rn ?_; (repeat (intro b1; refine Q.rn ?_))
      exact ⟨(), ⟨rfl, rfl, rfl, by rw [g4]; rfl, trivial⟩, Ent.refl _, trivial⟩
  rintro _ _
  by_cases hgt : i0 > j0
  · rw [if_pos hgt]
    refine Q.rn ?_; (repeat (intro b1; refine Q.rn ?_))
    refine Q.dgo [true] [13, 15] [13] [0, 1, 2, 3, 4, 5, 6, 7, 8, 9, 10, 11, 12, 13, 14, 15] ?_; (refine Q.rdn ?_; (repeat (intro b1; refine Q.rdn ?_))); refine Q.dc rfl rfl rfl rfl ?_; (refine Q.rn ?_; (repeat (intro b1; refine Q.rn ?_))); (refine Q.rdn ?_; (repeat (intro b1; refine Q.rdn ?_))); refine D.e rfl rfl rfl ?_; (refine Q.rn ?_; (repeat (intro b1; refine Q.rn ?_))); (refine Q.rdn ?_; (repeat (intro b1; refine Q.rdn ?_))); (refine Q.rn ?_; (repeat (intro b1; refine Q.rn ?_)))
    exact N.r2 (RV.tmp rfl (RV.tmp rfl RV.nil)) (Ent.refl _) ⟨rfl, rfl⟩
  rw [if_neg hgt]
  refine Q.rn ?_; (repeat (intro b1; refine Q.rn ?_))
  refine Q.dgo [true] [13, 15] [13] [0, 1, 2, 3, 4, 5, 6, 7, 8, 9, 10, 11, 12, 13, 14, 15] ?_; (refine Q.rdn ?_; (repeat (intro b1; refine Q.rdn ?_))); refine Q.dc rfl rfl rfl rfl ?_; (refine Q.rn ?_; (repeat (intro b1; refine Q.rn ?_))); (refine Q.rdn ?_; (repeat (intro b1; refine Q.rdn ?_))); refine D.e rfl rfl rfl ?_; (refine Q.rn ?_; (repeat (intro b1; refine Q.rn ?_))); (refine Q.rdn ?_; (repeat (intro b1; refine Q.rdn ?_))); (refine Q.rn ?_; (repeat (intro b1; refine Q.rn ?_)))
  obtain ⟨pr, hpr⟩ : ∃ pr, pr = Sort.partLoop Sort.ltInt a (i0 + 1) (j0 - 1) (Sort.swp e i0 j0) := ⟨_, rfl⟩
  rw [← hpr]
  refine swp_cutB (σ := Unit) (fun _ => [(0, SV bk n c), (1, .int .i64 a), (11, .int .i64 pr.1)]) (fun _ => AR bk pr.2 rs :: L) (fun _ => pr.1 < b ∧ pr.2.size = n) ?_ ?_
  · refine swp_loop (σ := Nat × Nat × Array Int) (fun s => [(0, SV bk n c), (1, .int .i64 a), (10, .int .i64 s.1), (11, .int .i64 s.2.1)]) (fun s => AR bk s.2.2 rs :: L)
      (fun s => a + 1 ≤ s.1 ∧ s.1 ≤ b + 1 ∧ s.2.1 < b ∧ s.2.2.size = n ∧ Sort.partLoop Sort.ltInt a s.1 s.2.1 s.2.2 = pr) (fun s => s.2.1 + 1 - s.1) (i0 + 1, j0 - 1, Sort.swp e i0 j0) ⟨rfl, rfl, rfl, rfl, trivial⟩ (Ent.refl _) ⟨by dsimp only; omega, by dsimp only; omega, by dsimp only; omega, by rw [swp_size]; exact he, hpr.symm⟩ ?_
    clear hpr hgt bj bi hj0 hi0 hee he e i0 j0
    rintro ⟨i1, j1, e⟩ ⟨k1, k2, k3, he, k5⟩
    dsimp only at k1 k2 k3 he k5 ⊢
    obtain ⟨i0, hi0⟩ : ∃ i0, i0 = Sort.scanUp (fun x => Sort.ltInt x e[a]!) e j1 i1 := ⟨_, rfl⟩
    obtain ⟨j0, hj0⟩ : ∃ j0, j0 = Sort.scanDown (fun x => !Sort.ltInt x e[a]!) e i0 j1 := ⟨_, rfl⟩
    have bi := scanUp_ge (fun x => Sort.ltInt x e[a]!) e j1 i1
    have bj := scanDown_le (fun x => !Sort.ltInt x e[a]!) e i0 j1
    rw [← hi0] at bi
    rw [← hj0] at bj
    rw [Sort.partLoop] at k5
    simp only [← hi0, ← hj0] at k5
    refine Q.rn ?_; (repeat (intro b1; refine Q.rn ?_))
    refine swp_cutB (σ := Unit) (fun _ => [(0, SV bk n c), (1, .int .i64 a), (10, .int .i64 i0), (11, .int .i64 j1)]) (fun _ => AR bk e rs :: L) (fun _ => True) ?_ ?_
    · refine swp_loop (σ := Nat) (fun s => [(0, SV bk n c), (1, .int .i64 a), (10, .int .i64 s), (11, .int .i64 j1)]) (fun s => AR bk e rs :: L)
        (fun s => i1 ≤ s ∧ Sort.scanUp (fun x => Sort.ltInt x e[a]!) e j1 s = i0) (fun s => j1 + 1 - s) (i1) ⟨rfl, rfl, rfl, rfl, trivial⟩ (Ent.refl _) ⟨Nat.le_refl _, hi0.symm⟩ ?_
      rintro i ⟨g1, g3⟩
      rw [Sort.scanUp] at g3
      by_cases hi : i ≤ j1
      · refine Q.rn ?_; (repeat (intro b1; refine Q.rn ?_))
        refine Q.dgo [true] [12] [] [0, 1, 2, 3, 4, 5, 6, 7, 8, 9, 10, 11, 12, 13] ?_
        refine Q.rdn ?_; (repeat (intro b1; refine Q.rdn ?_))
        refine D.e rfl rfl rfl ?_
        refine S.guard rfl ?_
        refine S.cr rfl (Less_spec _ _ _) ?_
        rintro _ M ⟨rfl, rfl⟩
        rw [show decide (i ≤ j1) = true by simpa using hi, Bool.true_and] at g3
        cases hl : Sort.ltInt e[i]! e[a]! with
        | true =>
          rw [hl] at g3
          simp only [Bool.not_false, Bool.not_true, if_true] at g3
          refine Q.rn ?_; (repeat (intro b1; refine Q.rn ?_))
          refine Q.rdn ?_; (repeat (intro b1; refine Q.rdn ?_))
          refine Q.rn ?_; (repeat (intro b1; refine Q.rn ?_))
          exact ⟨i + 1, ⟨rfl, rfl, rfl, rfl, trivial⟩, Ent.refl _, ⟨by omega, g3⟩, by omega⟩
        | false =>
          rw [hl] at g3
          simp only [Bool.not_false, Bool.not_true, Bool.false_eq_true, if_false] at g3
          refine Q.rn ?_; (repeat (intro b1; refine Q.rn ?_))
          refine Q.rdn ?_; (repeat (intro b1; refine Q.rdn ?_))
          refine Q.rn ?_; (repeat (intro b1; refine Q.rn ?_))
          exact ⟨(), ⟨rfl, rfl, by rw [g3]; rfl, rfl, trivial⟩, Ent.refl _, trivial⟩
      · rw [show decide (i ≤ j1) = false by simpa using hi, Bool.false_and] at g3
        simp only [Bool.false_eq_true, if_false] at g3
        refine Q.rn ?_; (repeat (intro b1; refine Q.rn ?_))
        refine Q.dgo [true] [12] [] [0, 1, 2, 3, 4, 5, 6, 7, 8, 9, 10, 11, 12, 13] ?_
        refine Q.rdn ?_; (repeat (intro b1; refine Q.rdn ?_))
        refine Q.rn ?_; (repeat (intro b1; refine Q.rn ?_))
        exact ⟨(), ⟨rfl, rfl, by rw [g3]; rfl, rfl, trivial⟩, Ent.refl _, trivial⟩
    rintro _ _
    refine Q.rn ?_; (repeat (intro b1; refine Q.rn ?_))
    refine swp_cutB (σ := Unit) (fun _ => [(0, SV bk n c), (1, .int .i64 a), (10, .int .i64 i0), (11, .int .i64 j0)]) (fun _ => AR bk e rs :: L) (fun _ => True) ?_ ?_
    · refine swp_loop (σ := Nat) (fun s => [(0, SV bk n c), (1, .int .i64 a), (10, .int .i64 i0), (11, .int .i64 s)]) (fun s => AR bk e rs :: L)
        (fun s => s ≤ j1 ∧ Sort.scanDown (fun x => !Sort.ltInt x e[a]!) e i0 s = j0) (fun s => s) (j1) ⟨rfl, rfl, rfl, rfl, trivial⟩ (Ent.refl _) ⟨Nat.le_refl _, hj0.symm⟩ ?_
      rintro j ⟨g1, g3⟩
      by_cases hi : i0 ≤ j
      · obtain ⟨k, rfl⟩ : ∃ k, j = k + 1 := ⟨j - 1, by omega⟩
        rw [Sort.scanDown] at g3
        refine Q.rn ?_; (repeat (intro b1; refine Q.rn ?_))
        refine Q.dgo [true] [12] [] [0, 1, 2, 3, 4, 5, 6, 7, 8, 9, 10, 11, 12, 13, 14] ?_
        refine Q.rdn ?_; (repeat (intro b1; refine Q.rdn ?_))
        refine D.e rfl rfl rfl ?_
        refine S.guard rfl ?_
        refine S.cr rfl (Less_spec _ _ _) ?_
        rintro _ M ⟨rfl, rfl⟩
        rw [show decide (i0 ≤ k + 1) = true by simpa using hi, Bool.true_and] at g3
        cases hl : Sort.ltInt e[k + 1]! e[a]! with
        | false =>
          rw [hl] at g3
          simp only [Bool.not_false, Bool.not_true, if_true] at g3
          refine Q.rn ?_; (repeat (intro b1; refine Q.rn ?_))
          refine Q.rdn ?_; (repeat (intro b1; refine Q.rdn ?_))
          refine Q.rn ?_; (repeat (intro b1; refine Q.rn ?_))
          exact ⟨k, ⟨rfl, rfl, rfl, rfl, trivial⟩, Ent.refl _, ⟨by omega, g3⟩, by omega⟩
        | true =>
          rw [hl] at g3
          simp only [Bool.not_false, Bool.not_true, Bool.false_eq_true, if_false] at g3
          refine Q.rn ?_; (repeat (intro b1; refine Q.rn ?_))
          refine Q.rdn ?_; (repeat (intro b1; refine Q.rdn ?_))
          refine Q.rn ?_; (repeat (intro b1; refine Q.rn ?_))
          exact ⟨(), ⟨rfl, rfl, rfl, by rw [← g3]; rfl, trivial⟩, Ent.refl _, trivial⟩
      · have g4 : j = j0 := by
          rw [← g3]
          cases j with
          | zero => rfl
          | succ j => rw [Sort.scanDown, show decide (i0 ≤ j + 1) = false by simpa using hi]; simp
        refine Q.rn ?_; (repeat (intro b1; refine Q.rn ?_))
        refine Q.dgo [true] [12] [] [0, 1, 2, 3, 4, 5, 6, 7, 8, 9, 10, 11, 12, 13, 14] ?_
        refine Q.rdn ?_; (repeat (intro b1; refine Q.rdn ?_))
        refine Q.rn ?_; (repeat (intro b1; refine Q.rn ?_))
        exact ⟨(), ⟨rfl, rfl, rfl, by rw [g4]; rfl, trivial⟩, Ent.refl _, trivial⟩
    rintro _ _
    by_cases hgt : i0 > j0
    · rw [if_pos hgt] at k5
      subst k5
      refine Q.rn ?_; (repeat (intro b1; refine Q.rn ?_))
      exact ⟨(), ⟨rfl, rfl, rfl, trivial⟩, Ent.refl _, by dsimp only; omega, he⟩
    rw [if_neg hgt, dif_pos (by omega)] at k5
    refine Q.rn ?_; (repeat (intro b1; refine Q.rn ?_))
    refine Q.dgo [true] [13, 15] [13] [0, 1, 2, 3, 4, 5, 6, 7, 8, 9, 10, 11, 12, 13, 14, 15] ?_; (refine Q.rdn ?_; (repeat (intro b1; refine Q.rdn ?_))); refine Q.dc rfl rfl rfl rfl ?_; (refine Q.rn ?_; (repeat (intro b1; refine Q.rn ?_))); (refine Q.rdn ?_; (repeat (intro b1; refine Q.rdn ?_))); refine D.e rfl rfl rfl ?_; (refine Q.rn ?_; (repeat (intro b1; refine Q.rn ?_))); (refine Q.rdn ?_; (repeat (intro b1; refine Q.rdn ?_))); (refine Q.rn ?_; (repeat (intro b1; refine Q.rn ?_)))
    exact ⟨(i0 + 1, j0 - 1, Sort.swp e i0 j0), ⟨rfl, rfl, rfl, rfl, trivial⟩, Ent.refl _, ⟨by dsimp only; omega, by dsimp only; omega, by dsimp only; omega, by rw [swp_size]; exact he, k5⟩, by dsimp only; omega⟩
  rintro _ ⟨hpb, hps⟩
  refine Q.rn ?_; (repeat (intro b1; refine Q.rn ?_))
  refine Q.dgo [true] [13, 15] [13] [0, 1, 2, 3, 4, 5, 6, 7, 8, 9, 10, 11, 12, 13, 14, 15] ?_; (refine Q.rdn ?_; (repeat (intro b1; refine Q.rdn ?_))); refine Q.dc rfl rfl rfl rfl ?_; (refine Q.rn ?_; (repeat (intro b1; refine Q.rn ?_))); (refine Q.rdn ?_; (repeat (intro b1; refine Q.rdn ?_))); refine D.e rfl rfl rfl ?_; (refine Q.rn ?_; (repeat (intro b1; refine Q.rn ?_))); (refine Q.rdn ?_; (repeat (intro b1; refine Q.rdn ?_))); (refine Q.rn ?_; (repeat (intro b1; refine Q.rn ?_)))
  exact N.r2 (RV.tmp rfl (RV.tmp rfl RV.nil)) (Ent.refl _) ⟨rfl, rfl⟩
end Go.Proofs.YtiampehfpgcogaaDoor
namespace Go.Proofs.YtiampehfpgcogaaDoor
open Go Go.SX
attribute [local irreducible] swp opsS thenS blockS retS CallsS St Ent YieldS anyS drawS
attribute [local irreducible] ar
set_option maxHeartbeats 20000000 in
theorem partitionEqual_spec (bk n c a b pv : Nat) (d : Array Int) (rs : List Value) (L : List HP) (hd : d.size = n) (ha : a ≤ pv) (hp : pv < b) (hb : b ≤ n) (hn : n ≤ 17592186044416) :
    CallsS Tryd.prog 93 [SV bk n c, .int .i64 a, .int .i64 b, .int .i64 pv] (AR bk d rs :: L)
      (fun v L' => v = .int .i64 (Sort.partitionEqual Sort.ltInt d a b pv).1 ∧ L' = AR bk (Sort.partitionEqual Sort.ltInt d a b pv).2 rs :: L) := by
  refine CallsS.of_body Tryd.func93 rfl rfl rfl ?_
  refine Q.rn ?_; (repeat (intro b1; refine Q.rn ?_))
  refine Q.dgo [true] [13, 15] [13] [0, 1, 2, 3, 4, 5, 6, 7, 8, 9, 10, 11, 12, 13, 14, 15] ?_; (refine Q.rdn ?_; (repeat (intro b1; refine Q.rdn ?_))); refine Q.dc rfl rfl rfl rfl ?_; (refine Q.rn ?_; (repeat (intro b1; refine Q.rn ?_))); (refine Q.rdn ?_; (repeat (intro b1; refine Q.rdn ?_))); refine D.e rfl rfl rfl ?_; (refine Q.rn ?_; (repeat (intro b1; refine Q.rn ?_))); (refine Q.rdn ?_; (repeat (intro b1; refine Q.rdn ?_))); (refine Q.rn ?_; (repeat (intro b1; refine Q.rn ?_)))
  obtain ⟨pr, hpr⟩ : ∃ pr, pr = Sort.partitionEqual Sort.ltInt d a b pv := ⟨_, rfl⟩
  rw [← hpr]
  refine swp_cutB (σ := Unit) (fun _ => [(9, .int .i64 pr.1)]) (fun _ => AR bk pr.2 rs :: L) (fun _ => True) ?_ ?_
  · refine swp_loop (σ := Nat × Nat × Array Int) (fun s => [(0, SV bk n c), (1, .int .i64 a), (9, .int .i64 s.1), (10, .int .i64 s.2.1)]) (fun s => AR bk s.2.2 rs :: L)
      (fun s => a + 1 ≤ s.1 ∧ s.1 ≤ b + 1 ∧ s.2.1 < b ∧ s.2.2.size = n ∧ Sort.partEqLoop Sort.ltInt a s.1 s.2.1 s.2.2 = pr) (fun s => s.2.1 + 1 - s.1) (a + 1, b - 1, Sort.swp d a pv) ⟨rfl, rfl, rfl, rfl, trivial⟩ (Ent.refl _) ⟨by dsimp only; omega, by dsimp only; omega, by dsimp only; omega, by rw [swp_size]; exact hd, hpr.symm⟩ ?_
    clear hpr
    rintro ⟨i1, j1, e⟩ ⟨k1, k2, k3, he, k5⟩
    dsimp only at k1 k2 k3 he k5 ⊢
    obtain ⟨i0, hi0⟩ : ∃ i0, i0 = Sort.scanUp (fun x => !Sort.ltInt e[a]! x) e j1 i1 := ⟨_, rfl⟩
    obtain ⟨j0, hj0⟩ : ∃ j0, j0 = Sort.scanDown (fun x => Sort.ltInt e[a]! x) e i0 j1 := ⟨_, rfl⟩
    have bi := scanUp_ge (fun x => !Sort.ltInt e[a]! x) e j1 i1
    have bj := scanDown_le (fun x => Sort.ltInt e[a]! x) e i0 j1
    rw [← hi0] at bi
    rw [← hj0] at bj
    rw [Sort.partEqLoop] at k5
    simp only [← hi0, ← hj0] at k5
    refine Q.rn ?_; (repeat (intro b1; refine Q.rn ?_))
    refine swp_cutB (σ := Unit) (fun _ => [(0, SV bk n c), (1, .int .i64 a), (9, .int .i64 i0), (10, .int .i64 j1)]) (fun _ => AR bk e rs :: L) (fun _ => True) ?_ ?_
    · refine swp_loop (σ := Nat) (fun s => [(0, SV bk n c), (1, .int .i64 a), (9, .int .i64 s), (10, .int .i64 j1)]) (fun s => AR bk e rs :: L)
        (fun s => i1 ≤ s ∧ Sort.scanUp (fun x => !Sort.ltInt e[a]! x) e j1 s = i0) (fun s => j1 + 1 - s) (i1) ⟨rfl, rfl, rfl, rfl, trivial⟩ (Ent.refl _) ⟨Nat.le_refl _, hi0.symm⟩ ?_
      rintro i ⟨g1, g3⟩
      rw [Sort.scanUp] at g3
      by_cases hi : i ≤ j1
      · refine Q.rn ?_; (repeat (intro b1; refine Q.rn ?_))
        refine Q.dgo [true] [12] [] [0, 1, 2, 3, 4, 5, 6, 7, 8, 9, 10, 11, 12, 13, 14] ?_
        refine Q.rdn ?_; (repeat (intro b1; refine Q.rdn ?_))
        refine D.e rfl rfl rfl ?_
        refine S.guard rfl ?_
        refine S.cr rfl (Less_spec _ _ _) ?_
        rintro _ M ⟨rfl, rfl⟩
        rw [show decide (i ≤ j1) = true by simpa using hi, Bool.true_and] at g3
        cases hl : Sort.ltInt e[a]! e[i]! with
        | false =>
          rw [hl] at g3
          simp only [Bool.not_false, Bool.not_true, if_true] at g3
          refine Q.rn ?_; (repeat (intro b1; refine Q.rn ?_))
          refine Q.rdn ?_; (repeat (intro b1; refine Q.rdn ?_))
          refine Q.rn ?_; (repeat (intro b1; refine Q.rn ?_))
          exact ⟨i + 1, ⟨rfl, rfl, rfl, rfl, trivial⟩, Ent.refl _, ⟨by omega, g3⟩, by omega⟩
        | true =>
          rw [hl] at g3
          simp only [Bool.not_false, Bool.not_true, Bool.false_eq_true, if_false] at g3
          refine Q.rn ?_; (repeat (intro b1; refine Q.rn ?_))
          refine Q.rdn ?_; (repeat (intro b1; refine Q.rdn ?_))
          refine Q.rn ?_; (repeat (intro b1; refine Q.rn ?_))
          exact ⟨(), ⟨rfl, rfl, by rw [g3]; rfl, rfl, trivial⟩, Ent.refl _, trivial⟩
      · rw [show decide (i ≤ j1) = false by simpa using hi, Bool.false_and] at g3
        simp only [Bool.false_eq_true, if_false] at g3
        refine Q.rn ?_; (repeat (intro b1; refine Q.rn ?_))
        refine Q.dgo [true] [12] [] [0, 1, 2, 3, 4, 5, 6, 7, 8, 9, 10, 11, 12, 13, 14] ?_
        refine Q.rdn ?_; (repeat (intro b1; refine Q.rdn ?_))
        refine Q.rn ?_; (repeat (intro b1; refine Q.rn ?_))
        exact ⟨(), ⟨rfl, rfl, by rw [g3]; rfl, rfl, trivial⟩, Ent.refl _, trivial⟩
    rintro _ _
    refine Q.rn ?_; (repeat (intro b1; refine Q.rn ?_))
    refine swp_cutB (σ := Unit) (fun _ => [(0, SV bk n c), (1, .int .i64 a), (9, .int .i64 i0), (10, .int .i64 j0)]) (fun _ => AR bk e rs :: L) (fun _ => True) ?_ ?_
    · refine swp_loop (σ := Nat) (fun s => [(0, SV bk n c), (1, .int .i64 a), (9, .int .i64 i0), (10, .int .i64 s)]) (fun s => AR bk e rs :: L)
        (fun s => s ≤ j1 ∧ Sort.scanDown (fun x => Sort.ltInt e[a]! x) e i0 s = j0) (fun s => s) (j1) ⟨rfl, rfl, rfl, rfl, trivial⟩ (Ent.refl _) ⟨Nat.le_refl _, hj0.symm⟩ ?_
      rintro j ⟨g1, g3⟩
      by_cases hi : i0 ≤ j
      · obtain ⟨k, rfl⟩ : ∃ k, j = k + 1 := ⟨j - 1, by omega⟩
        rw [Sort.scanDown] at g3
        refine Q.rn ?_; (repeat (intro b1; refine Q.rn ?_))
        refine Q.dgo [true] [12] [] [0, 1, 2, 3, 4, 5, 6, 7, 8, 9, 10, 11, 12, 13] ?_
        refine Q.rdn ?_; (repeat (intro b1; refine Q.rdn ?_))
        refine D.e rfl rfl rfl ?_
        refine S.guard rfl ?_
        refine S.cr rfl (Less_spec _ _ _) ?_
        rintro _ M ⟨rfl, rfl⟩
        rw [show decide (i0 ≤ k + 1) = true by simpa using hi, Bool.true_and] at g3
        cases hl : Sort.ltInt e[a]! e[k + 1]! with
        | true =>
          rw [hl] at g3
          simp only [Bool.not_false, Bool.not_true, if_true] at g3
          refine Q.rn ?_; (repeat (intro b1; refine Q.rn ?_))
          refine Q.rdn ?_; (repeat (intro b1; refine Q.rdn ?_))
          refine Q.rn ?_; (repeat (intro b1; refine Q.rn ?_))
          exact ⟨k, ⟨rfl, rfl, rfl, rfl, trivial⟩, Ent.refl _, ⟨by omega, g3⟩, by omega⟩
        | false =>
          rw [hl] at g3
          simp only [Bool.not_false, Bool.not_true, Bool.false_eq_true, if_false] at g3
          refine Q.rn ?_; (repeat (intro b1; refine Q.rn ?_))
          refine Q.rdn ?_; (repeat (intro b1; refine Q.rdn ?_))
          refine Q.rn ?_; (repeat (intro b1; refine Q.rn ?_))
          exact ⟨(), ⟨rfl, rfl, rfl, by rw [← g3]; rfl, trivial⟩, Ent.refl _, trivial⟩
      · have g4 : j = j0 := by
          rw [← g3]
          cases j with
          | zero => rfl
          | succ j => rw [Sort.scanDown, show decide (i0 ≤ j + 1) = false by simpa using hi]; simp
        refine Q.rn ?_; (repeat (intro b1; refine Q.rn ?_))
        refine Q.dgo [true] [12] [] [0, 1, 2, 3, 4, 5, 6, 7, 8, 9, 10, 11, 12, 13] ?_
        refine Q.rdn ?_; (repeat (intro b1; refine Q.rdn ?_))
        refine Q.rn ?_; (repeat (intro b1; refine Q.rn ?_))
        exact ⟨(), ⟨rfl, rfl, rfl, by rw [g4]; rfl, trivial⟩, Ent.refl _, trivial⟩
    rintro _ _
    by_cases hgt : i0 > j0
    · rw [if_pos hgt] at k5
      subst k5
      refine Q.rn ?_; (repeat (intro b1; refine Q.rn ?_))
      exact ⟨(), ⟨rfl, trivial⟩, Ent.refl _, trivial⟩
    rw [if_neg hgt, dif_pos (by omega)] at k5
    refine Q.rn ?_; (repeat (intro b1; refine Q.rn ?_))
    refine Q.dgo [true] [13, 15] [13] [0, 1, 2, 3, 4, 5, 6, 7, 8, 9, 10, 11, 12, 13, 14, 15] ?_; (refine Q.rdn ?_; (repeat (intro b1; refine Q.rdn ?_))); refine Q.dc rfl rfl rfl rfl ?_; (refine Q.rn ?_; (repeat (intro b1; refine Q.rn ?_))); (refine Q.rdn ?_; (repeat (intro b1; refine Q.rdn ?_))); refine D.e rfl rfl rfl ?_; (refine Q.rn ?_; (repeat (intro b1; refine Q.rn ?_))); (refine Q.rdn ?_; (repeat (intro b1; refine Q.rdn ?_))); (refine Q.rn ?_; (repeat (intro b1; refine Q.rn ?_)))
    exact ⟨(i0 + 1, j0 - 1, Sort.swp e i0 j0), ⟨rfl, rfl, rfl, rfl, trivial⟩, Ent.refl _, ⟨by dsimp only; omega, by dsimp only; omega, by dsimp only; omega, by rw [swp_size]; exact he, k5⟩, by dsimp only; omega⟩
  rintro _ _
  refine Q.rn ?_; (repeat (intro b1; refine Q.rn ?_))
  exact N.r1 (RV.tmp rfl RV.nil) (Ent.refl _) ⟨rfl, rfl⟩
end Go.Proofs.YtiampehfpgcogaaDoor
namespace Go.Proofs.YtiampehfpgcogaaDoor
open Go Go.SX
attribute [local irreducible] swp opsS thenS blockS retS CallsS St Ent YieldS anyS drawS
attribute [local irreducible] ar
theorem scanSorted_ge (d : Array Int) (b i : Nat) (h : i ≤ b) : i ≤ Sort.scanSorted Sort.ltInt d b i ∧ Sort.scanSorted Sort.ltInt d b i ≤ b := by
  induction hk : b - i using Nat.strongRecOn generalizing i with
  | _ k ih =>
    rw [Sort.scanSorted]
    split
    · rename_i hc
      simp only [Bool.and_eq_true, decide_eq_true_eq] at hc
      have := ih _ (by omega) (i + 1) (by omega) rfl
      omega
    · omega
theorem shiftDown_size : ∀ (j : Nat) (d : Array Int), (Sort.shiftDown Sort.ltInt j d).size = d.size
  | 0, d => rfl
  | j + 1, d => by
    rw [Sort.shiftDown]
    split
    · rfl
    · rw [shiftDown_size j, swp_size]
theorem shiftUp_size (b j : Nat) (d : Array Int) : (Sort.shiftUp Sort.ltInt b j d).size = d.size := by
  induction hk : b - j using Nat.strongRecOn generalizing j d with
  | _ k ih =>
    rw [Sort.shiftUp]
    split
    · split
      · rfl
      · rw [ih _ (by omega) (j + 1) _ rfl, swp_size]
    · rfl
set_option maxHeartbeats 20000000 in
theorem partialInsertionSort_spec (bk n c a b : Nat) (d : Array Int) (rs : List Value) (L : List HP) (hd : d.size = n) (ha : a < b) (hb : b ≤ n) (hn : n ≤ 17592186044416) :
    CallsS Tryd.prog 91 [SV bk n c, .int .i64 a, .int .i64 b] (AR bk d rs :: L)
      (fun v L' => v = .bool (Sort.partialInsertionSort Sort.ltInt d a b).2 ∧ L' = AR bk (Sort.partialInsertionSort Sort.ltInt d a b).1 rs :: L) := by
  refine CallsS.of_body Tryd.func91 rfl rfl rfl ?_
  refine Q.rn ?_; (repeat (intro b1; refine Q.rn ?_))
  refine swp_loop (σ := Nat × Nat × Array Int) (fun s => [(0, SV bk n c), (1, .int .i64 a), (2, .int .i64 b), (7, .int .i64 s.2.1), (8, .int .i64 ((5 - s.1 : Nat) : Int))]) (fun s => AR bk s.2.2 rs :: L)
    (fun s => s.1 ≤ 5 ∧ a + 1 ≤ s.2.1 ∧ s.2.1 ≤ b ∧ s.2.2.size = n ∧ Sort.partialIns Sort.ltInt a b s.1 s.2.1 s.2.2 = Sort.partialInsertionSort Sort.ltInt d a b) (fun s => s.1) (5, a + 1, d) ⟨rfl, rfl, rfl, rfl, rfl, trivial⟩ (Ent.refl _) ⟨Nat.le_refl _, by dsimp only; omega, by dsimp only; omega, hd, rfl⟩ ?_
  rintro ⟨st, i0, e⟩ ⟨h1, h2, h3, h4, h5⟩
  dsimp only at h1 h2 h3 h4 h5 ⊢
  cases st with
  | zero =>
    rw [Sort.partialIns] at h5
    rw [← h5]
    refine Q.rn ?_; (repeat (intro b1; refine Q.rn ?_))
    exact N.r1 (RV.tmp rfl RV.nil) (Ent.refl _) ⟨rfl, rfl⟩
  | succ st =>
  obtain ⟨k, hk⟩ : ∃ k, k = 5 - (st + 1) := ⟨_, rfl⟩
  rw [← hk]
  have hk5 : k < 5 := by omega
  rw [Sort.partialIns] at h5
  obtain ⟨i1, hi1⟩ : ∃ i1, i1 = Sort.scanSorted Sort.ltInt e b i0 := ⟨_, rfl⟩
  have bi := scanSorted_ge e b i0 h3
  rw [← hi1] at bi
  simp only [← hi1] at h5
  refine Q.rn ?_; (repeat (intro b1; refine Q.rn ?_))
  refine swp_cutB (σ := Unit) (fun _ => [(0, SV bk n c), (1, .int .i64 a), (2, .int .i64 b), (7, .int .i64 i1), (8, .int .i64 k)]) (fun _ => AR bk e rs :: L) (fun _ => True) ?_ ?_
  · refine swp_loop (σ := Nat) (fun s => [(0, SV bk n c), (1, .int .i64 a), (2, .int .i64 b), (7, .int .i64 s), (8, .int .i64 k)]) (fun s => AR bk e rs :: L)
      (fun s => a + 1 ≤ s ∧ s ≤ b ∧ Sort.scanSorted Sort.ltInt e b s = i1) (fun s => b - s) i0 ⟨rfl, rfl, rfl, rfl, rfl, trivial⟩ (Ent.refl _) ⟨h2, h3, hi1.symm⟩ ?_
    rintro i ⟨g1, g2, g3⟩
    rw [Sort.scanSorted] at g3
    by_cases hi : i < b
    · refine Q.rn ?_; (repeat (intro b1; refine Q.rn ?_))
      refine Q.dgo [true] [13] [] [0, 1, 2, 3, 4, 5, 6, 7, 8, 9, 10, 11, 12, 13, 14, 15] ?_
      refine Q.rdn ?_; (repeat (intro b1; refine Q.rdn ?_))
      refine D.e rfl rfl rfl ?_
      refine S.guard rfl ?_
      refine S.cr rfl (Less_spec _ _ _) ?_
      rintro _ M ⟨rfl, rfl⟩
      rw [show decide (i < b) = true by simpa using hi, Bool.true_and] at g3
      cases hl : Sort.ltInt e[i]! e[i - 1]! with
      | false =>
        rw [hl] at g3
        simp only [Bool.not_false, if_true] at g3
        refine Q.rn ?_; (repeat (intro b1; refine Q.rn ?_))
        refine Q.rdn ?_; (repeat (intro b1; refine Q.rdn ?_))
        refine Q.rn ?_; (repeat (intro b1; refine Q.rn ?_))
        exact ⟨i + 1, ⟨rfl, rfl, rfl, rfl, rfl, trivial⟩, Ent.refl _, ⟨by omega, by omega, g3⟩, by omega⟩
      | true =>
        rw [hl] at g3
        simp only [Bool.not_true, Bool.false_eq_true, if_false] at g3
        refine Q.rn ?_; (repeat (intro b1; refine Q.rn ?_))
        refine Q.rdn ?_; (repeat (intro b1; refine Q.rdn ?_))
        refine Q.rn ?_; (repeat (intro b1; refine Q.rn ?_))
        exact ⟨(), ⟨rfl, rfl, rfl, by rw [g3]; rfl, rfl, trivial⟩, Ent.refl _, trivial⟩
    · rw [show decide (i < b) = false by simpa using hi, Bool.false_and] at g3
      simp only [Bool.false_eq_true, if_false] at g3
      refine Q.rn ?_; (repeat (intro b1; refine Q.rn ?_))
      refine Q.dgo [true] [13] [] [0, 1, 2, 3, 4, 5, 6, 7, 8, 9, 10, 11, 12, 13, 14, 15] ?_
      refine Q.rdn ?_; (repeat (intro b1; refine Q.rdn ?_))
      refine Q.rn ?_; (repeat (intro b1; refine Q.rn ?_))
      exact ⟨(), ⟨rfl, rfl, rfl, by rw [g3]; rfl, rfl, trivial⟩, Ent.refl _, trivial⟩
  rintro _ _
  by_cases hib : i1 = b
  · rw [if_pos hib] at h5
    rw [← h5]
    refine Q.rn ?_; (repeat (intro b1; refine Q.rn ?_))
    exact N.r1 (RV.tmp rfl RV.nil) (Ent.refl _) ⟨rfl, rfl⟩
  rw [if_neg hib] at h5
  by_cases h50 : b - a < 50
  · rw [if_pos h50] at h5
    rw [← h5]
    refine Q.rn ?_; (repeat (intro b1; refine Q.rn ?_))
    exact N.r1 (RV.tmp rfl RV.nil) (Ent.refl _) ⟨rfl, rfl⟩
  rw [if_neg h50] at h5
  refine Q.rn ?_; (repeat (intro b1; refine Q.rn ?_))
  refine Q.dgo [true] [15, 17] [15] [0, 1, 2, 3, 4, 5, 6, 7, 8, 9, 10, 11, 12, 13, 14, 15, 16, 17] ?_; (refine Q.rdn ?_; (repeat (intro b1; refine Q.rdn ?_))); refine Q.dc rfl rfl rfl rfl ?_; (refine Q.rn ?_; (repeat (intro b1; refine Q.rn ?_))); (refine Q.rdn ?_; (repeat (intro b1; refine Q.rdn ?_))); refine D.e rfl rfl rfl ?_; (refine Q.rn ?_; (repeat (intro b1; refine Q.rn ?_))); (refine Q.rdn ?_; (repeat (intro b1; refine Q.rdn ?_))); (refine Q.rn ?_; (repeat (intro b1; refine Q.rn ?_)))
  have hes : (Sort.swp e i1 (i1 - 1)).size = n := by rw [swp_size]; exact h4
  obtain ⟨e1, he1⟩ : ∃ e1, e1 = (if i1 - a ≥ 2 then Sort.shiftDown Sort.ltInt (i1 - 1) (Sort.swp e i1 (i1 - 1)) else Sort.swp e i1 (i1 - 1)) := ⟨_, rfl⟩
  have he1s : e1.size = n := by rw [he1]; split <;> first | (rw [shiftDown_size]; exact hes) | exact hes
  rw [← he1] at h5
  refine swp_cutT (σ := Unit) (fun _ => [(0, SV bk n c), (1, .int .i64 a), (2, .int .i64 b), (7, .int .i64 i1), (8, .int .i64 k)]) (fun _ => AR bk e1 rs :: L) (fun _ => True) ?_ ?_
  · by_cases h2a : i1 - a ≥ 2
    · rw [if_pos h2a] at he1
      refine Q.rn ?_; (repeat (intro b1; refine Q.rn ?_))
      refine swp_loop (σ := Nat × Array Int) (fun s => [(0, SV bk n c), (1, .int .i64 a), (2, .int .i64 b), (7, .int .i64 i1), (8, .int .i64 k), (9, .int .i64 s.1)]) (fun s => AR bk s.2 rs :: L)
        (fun s => s.1 < b ∧ s.2.size = n ∧ Sort.shiftDown Sort.ltInt s.1 s.2 = e1) (fun s => s.1) (i1 - 1, Sort.swp e i1 (i1 - 1)) ⟨rfl, rfl, rfl, rfl, rfl, rfl, trivial⟩ (Ent.refl _) ⟨by dsimp only; omega, hes, he1.symm⟩ ?_
      rintro ⟨j, g⟩ ⟨g1, g2, g3⟩
      dsimp only at g1 g2 g3 ⊢
      cases j with
      | zero =>
        rw [Sort.shiftDown] at g3
        subst g3
        refine Q.rn ?_; (repeat (intro b1; refine Q.rn ?_))
        exact ⟨(), ⟨rfl, rfl, rfl, rfl, rfl, trivial⟩, Ent.refl _, trivial⟩
      | succ j =>
        rw [Sort.shiftDown] at g3
        refine Q.rn ?_; (repeat (intro b1; refine Q.rn ?_))
        refine Q.dgo [true] [9] [] [0, 1, 2, 3, 4, 5, 6, 7, 8, 9, 10] ?_
        refine Q.rdn ?_; (repeat (intro b1; refine Q.rdn ?_))
        refine D.e rfl rfl rfl ?_
        refine S.cr rfl (Less_spec _ _ _) ?_
        rintro _ M ⟨rfl, rfl⟩
        cases hl : Sort.ltInt g[j + 1]! g[j]! with
        | false =>
          rw [hl] at g3
          simp only [Bool.not_false, if_true] at g3
          rw [show j + 1 - 1 = j from rfl, hl]
          subst g3
          refine Q.rn ?_; (repeat (intro b1; refine Q.rn ?_))
          refine Q.rdn ?_; (repeat (intro b1; refine Q.rdn ?_))
          refine Q.rn ?_; (repeat (intro b1; refine Q.rn ?_))
          exact ⟨(), ⟨rfl, rfl, rfl, rfl, rfl, trivial⟩, Ent.refl _, trivial⟩
        | true =>
          rw [hl] at g3
          simp only [Bool.not_true, Bool.false_eq_true, if_false] at g3
          rw [show j + 1 - 1 = j from rfl, hl]
          refine Q.rn ?_; (repeat (intro b1; refine Q.rn ?_))
          refine Q.rdn ?_; (repeat (intro b1; refine Q.rdn ?_))
          refine Q.rn ?_; (repeat (intro b1; refine Q.rn ?_))
          refine Q.dgo [true] [15, 17] [15] [0, 1, 2, 3, 4, 5, 6, 7, 8, 9, 10, 11, 12, 13, 14, 15, 16, 17] ?_; (refine Q.rdn ?_; (repeat (intro b1; refine Q.rdn ?_))); refine Q.dc rfl rfl rfl rfl ?_; (refine Q.rn ?_; (repeat (intro b1; refine Q.rn ?_))); (refine Q.rdn ?_; (repeat (intro b1; refine Q.rdn ?_))); refine D.e rfl rfl rfl ?_; (refine Q.rn ?_; (repeat (intro b1; refine Q.rn ?_))); (refine Q.rdn ?_; (repeat (intro b1; refine Q.rdn ?_))); (refine Q.rn ?_; (repeat (intro b1; refine Q.rn ?_)))
          exact ⟨(j, Sort.swp g (j + 1) j), ⟨rfl, rfl, rfl, rfl, rfl, rfl, trivial⟩, Ent.refl _, ⟨by dsimp only; omega, by rw [swp_size]; exact g2, g3⟩, by dsimp only; omega⟩
    · rw [if_neg h2a] at he1
      subst he1
      refine Q.rn ?_; (repeat (intro b1; refine Q.rn ?_))
      first | refine N.tn ?_ | skip
      exact ⟨(), ⟨rfl, rfl, rfl, rfl, rfl, trivial⟩, Ent.refl _, trivial⟩
  rintro _ _
  clear he1 hes
  obtain ⟨e2, he2⟩ : ∃ e2, e2 = (if b - i1 ≥ 2 then Sort.shiftUp Sort.ltInt b (i1 + 1) e1 else e1) := ⟨_, rfl⟩
  have he2s : e2.size = n := by rw [he2]; split <;> first | (rw [shiftUp_size]; exact he1s) | exact he1s
  rw [← he2] at h5
  refine Q.rn ?_; (repeat (intro b1; refine Q.rn ?_))
  refine swp_cutB (σ := Unit) (fun _ => [(0, SV bk n c), (1, .int .i64 a), (2, .int .i64 b), (7, .int .i64 i1), (8, .int .i64 k)]) (fun _ => AR bk e2 rs :: L) (fun _ => True) ?_ ?_
  · by_cases h2b : b - i1 ≥ 2
    · rw [if_pos h2b] at he2
      refine Q.rn ?_; (repeat (intro b1; refine Q.rn ?_))
      refine swp_loop (σ := Nat × Array Int) (fun s => [(0, SV bk n c), (1, .int .i64 a), (2, .int .i64 b), (7, .int .i64 i1), (8, .int .i64 k), (10, .int .i64 s.1)]) (fun s => AR bk s.2 rs :: L)
        (fun s => 1 ≤ s.1 ∧ s.1 ≤ b ∧ s.2.size = n ∧ Sort.shiftUp Sort.ltInt b s.1 s.2 = e2) (fun s => b - s.1) (i1 + 1, e1) ⟨rfl, rfl, rfl, rfl, rfl, rfl, trivial⟩ (Ent.refl _) ⟨by dsimp only; omega, by dsimp only; omega, he1s, he2.symm⟩ ?_
      rintro ⟨j, g⟩ ⟨g0, g1, g2, g3⟩
      dsimp only at g0 g1 g2 g3 ⊢
      rw [Sort.shiftUp] at g3
      by_cases hj : j < b
      · rw [if_pos hj] at g3
        refine Q.rn ?_; (repeat (intro b1; refine Q.rn ?_))
        refine Q.dgo [true] [9] [] [0, 1, 2, 3, 4, 5, 6, 7, 8, 9, 10] ?_
        refine Q.rdn ?_; (repeat (intro b1; refine Q.rdn ?_))
        refine D.e rfl rfl rfl ?_
        refine S.cr rfl (Less_spec _ _ _) ?_
        rintro _ M ⟨rfl, rfl⟩
        cases hl : Sort.ltInt g[j]! g[j - 1]! with
        | false =>
          rw [hl] at g3
          simp only [Bool.not_false, if_true] at g3
          subst g3
          refine Q.rn ?_; (repeat (intro b1; refine Q.rn ?_))
          refine Q.rdn ?_; (repeat (intro b1; refine Q.rdn ?_))
          refine Q.rn ?_; (repeat (intro b1; refine Q.rn ?_))
          exact ⟨(), ⟨rfl, rfl, rfl, rfl, rfl, trivial⟩, Ent.refl _, trivial⟩
        | true =>
          rw [hl] at g3
          simp only [Bool.not_true, Bool.false_eq_true, if_false] at g3
          refine Q.rn ?_; (repeat (intro b1; refine Q.rn ?_))
          refine Q.rdn ?_; (repeat (intro b1; refine Q.rdn ?_))
          refine Q.rn ?_; (repeat (intro b1; refine Q.rn ?_))
          refine Q.dgo [true] [15, 17] [15] [0, 1, 2, 3, 4, 5, 6, 7, 8, 9, 10, 11, 12, 13, 14, 15, 16, 17] ?_; (refine Q.rdn ?_; (repeat (intro b1; refine Q.rdn ?_))); refine Q.dc rfl rfl rfl rfl ?_; (refine Q.rn ?_; (repeat (intro b1; refine Q.rn ?_))); (refine Q.rdn ?_; (repeat (intro b1; refine Q.rdn ?_))); refine D.e rfl rfl rfl ?_; (refine Q.rn ?_; (repeat (intro b1; refine Q.rn ?_))); (refine Q.rdn ?_; (repeat (intro b1; refine Q.rdn ?_))); (refine Q.rn ?_; (repeat (intro b1; refine Q.rn ?_)))
          exact ⟨(j + 1, Sort.swp g j (j - 1)), ⟨rfl, rfl, rfl, rfl, rfl, rfl, trivial⟩, Ent.refl _, ⟨by dsimp only; omega, by dsimp only; omega, by rw [swp_size]; exact g2, g3⟩, by dsimp only; omega⟩
      · rw [if_neg hj] at g3
        subst g3
        refine Q.rn ?_; (repeat (intro b1; refine Q.rn ?_))
        exact ⟨(), ⟨rfl, rfl, rfl, rfl, rfl, trivial⟩, Ent.refl _, trivial⟩
    · rw [if_neg h2b] at he2
      subst he2
      refine Q.rn ?_; (repeat (intro b1; refine Q.rn ?_))
      first | refine N.tn ?_ | skip
      exact ⟨(), ⟨rfl, rfl, rfl, rfl, rfl, trivial⟩, Ent.refl _, trivial⟩
  rintro _ _
  refine Q.rn ?_; (repeat (intro b1; refine Q.rn ?_))
  exact ⟨(st, i1, e2), ⟨rfl, rfl, rfl, rfl, congrArg some (congrArg (Value.int .i64) (by dsimp only; omega)), trivial⟩, Ent.refl _, ⟨by dsimp only; omega, by dsimp only; omega, bi.2, he2s, h5⟩, by dsimp only; omega⟩
end Go.Proofs.YtiampehfpgcogaaDoor
namespace Go.Proofs.YtiampehfpgcogaaDoor
open Go Go.SX
attribute [local irreducible] swp opsS thenS blockS retS CallsS St Ent YieldS anyS drawS
attribute [local irreducible] ar
abbrev SW (p s : Nat) : HP := pt p (cl [.int .i64 s] 3)
set_option maxHeartbeats 4000000 in
theorem order2_spec (bk n c a b p sw : Nat) (d : Array Int) (rs : List Value) (L : List HP) (hd : d.size = n) (ha : a < n) (hb : b < n) (hn : n ≤ 17592186044416) (hs : sw ≤ 1000000) :
    CallsS Tryd.prog 106 [SV bk n c, .int .i64 a, .int .i64 b, .pointer (some ⟨p, 0, none⟩)] (AR bk d rs :: SW p sw :: L)
      (fun v L' => v = .tuple #[.int .i64 (Sort.order2 Sort.ltInt d a b sw).1, .int .i64 (Sort.order2 Sort.ltInt d a b sw).2.1] ∧ L' = AR bk d rs :: SW p (Sort.order2 Sort.ltInt d a b sw).2.2 :: L) := by
  refine CallsS.of_body Tryd.func106 rfl rfl rfl ?_
  refine Q.rn ?_; (repeat (intro b1; refine Q.rn ?_))
  refine Q.dgo [true, false] [8] [] [0, 1, 2, 3, 4, 5, 6, 7, 8] ?_
  refine Q.rdn ?_; (repeat (intro b1; refine Q.rdn ?_))
  refine D.e rfl rfl rfl ?_
  refine S.cr rfl (Less_spec _ _ _) ?_
  rintro _ M ⟨rfl, rfl⟩
  unfold Sort.order2
  cases hl : Sort.ltInt d[b]! d[a]! with
  | false =>
    refine Q.rn ?_; (repeat (intro b1; refine Q.rn ?_))
    refine Q.rdn ?_; (repeat (intro b1; refine Q.rdn ?_))
    refine Q.rn ?_; (repeat (intro b1; refine Q.rn ?_))
    exact N.r2 (RV.tmp rfl (RV.tmp rfl RV.nil)) (Ent.refl _) ⟨rfl, rfl⟩
  | true =>
    refine Q.rn ?_; (repeat (intro b1; refine Q.rn ?_))
    refine Q.rdn ?_; (repeat (intro b1; refine Q.rdn ?_))
    refine Q.rn ?_; (repeat (intro b1; refine Q.rn ?_))
    exact N.r2 (RV.tmp rfl (RV.tmp rfl RV.nil)) (Ent.refl _) ⟨rfl, rfl⟩
theorem order2_in {n : Nat} {d : Array Int} {a b sw : Nat} (ha : a < n) (hb : b < n) : (Sort.order2 Sort.ltInt d a b sw).1 < n ∧ (Sort.order2 Sort.ltInt d a b sw).2.1 < n ∧ (Sort.order2 Sort.ltInt d a b sw).2.2 ≤ sw + 1 := by
  unfold Sort.order2; split <;> simp_all <;> omega
set_option maxHeartbeats 4000000 in
theorem median_spec (bk n c a b e p sw : Nat) (d : Array Int) (rs : List Value) (L : List HP) (hd : d.size = n) (ha : a < n) (hb : b < n) (he : e < n) (hn : n ≤ 17592186044416) (hs : sw ≤ 1000) :
    CallsS Tryd.prog 103 [SV bk n c, .int .i64 a, .int .i64 b, .int .i64 e, .pointer (some ⟨p, 0, none⟩)] (AR bk d rs :: SW p sw :: L)
      (fun v L' => v = .int .i64 (Sort.median Sort.ltInt d a b e sw).1 ∧ L' = AR bk d rs :: SW p (Sort.median Sort.ltInt d a b e sw).2 :: L) := by
  refine CallsS.of_body Tryd.func103 rfl rfl rfl ?_
  refine Q.rn ?_; (repeat (intro b1; refine Q.rn ?_))
  refine S.cr rfl (order2_spec bk n c a b p sw d rs L hd ha hb hn (by omega)) ?_
  rintro _ _ ⟨rfl, rfl⟩
  have r1 := order2_in (d := d) (sw := sw) ha hb
  unfold Sort.median
  generalize Sort.order2 Sort.ltInt d a b sw = o1 at r1
  refine Q.rn ?_; (repeat (intro b1; refine Q.rn ?_))
  refine S.cr rfl (order2_spec bk n c o1.2.1 e p o1.2.2 d rs L hd r1.2.1 he hn (by omega)) ?_
  rintro _ _ ⟨rfl, rfl⟩
  have r2 := order2_in (d := d) (sw := o1.2.2) r1.2.1 he
  dsimp only
  generalize Sort.order2 Sort.ltInt d o1.2.1 e o1.2.2 = o2 at r2
  refine Q.rn ?_; (repeat (intro b1; refine Q.rn ?_))
  refine S.cr rfl (order2_spec bk n c o1.1 o2.1 p o2.2.2 d rs L hd r1.1 r2.1 hn (by omega)) ?_
  rintro _ _ ⟨rfl, rfl⟩
  refine Q.rn ?_; (repeat (intro b1; refine Q.rn ?_))
  exact N.r1 (RV.tmp rfl RV.nil) (Ent.refl _) ⟨rfl, rfl⟩
theorem median_in {n : Nat} {d : Array Int} {a b e sw : Nat} (ha : a < n) (hb : b < n) (he : e < n) : (Sort.median Sort.ltInt d a b e sw).1 < n ∧ (Sort.median Sort.ltInt d a b e sw).2 ≤ sw + 3 := by
  have r1 := order2_in (d := d) (sw := sw) ha hb
  unfold Sort.median
  generalize Sort.order2 Sort.ltInt d a b sw = o1 at r1
  have r2 := order2_in (d := d) (sw := o1.2.2) r1.2.1 he
  dsimp only
  generalize Sort.order2 Sort.ltInt d o1.2.1 e o1.2.2 = o2 at r2
  have r3 := order2_in (d := d) (sw := o2.2.2) r1.1 r2.1
  omega
set_option maxHeartbeats 4000000 in
theorem medianAdjacent_spec (bk n c a p sw : Nat) (d : Array Int) (rs : List Value) (L : List HP) (hd : d.size = n) (h1 : 1 ≤ a) (ha : a + 1 < n) (hn : n ≤ 17592186044416) (hs : sw ≤ 1000) :
    CallsS Tryd.prog 102 [SV bk n c, .int .i64 a, .pointer (some ⟨p, 0, none⟩)] (AR bk d rs :: SW p sw :: L)
      (fun v L' => v = .int .i64 (Sort.medianAdjacent Sort.ltInt d a sw).1 ∧ L' = AR bk d rs :: SW p (Sort.medianAdjacent Sort.ltInt d a sw).2 :: L) := by
  refine CallsS.of_body Tryd.func102 rfl rfl rfl ?_
  refine Q.rn ?_; (repeat (intro b1; refine Q.rn ?_))
  refine S.cr rfl (median_spec bk n c (a - 1) a (a + 1) p sw d rs L hd (by omega) (by omega) (by omega) hn hs) ?_
  rintro _ _ ⟨rfl, rfl⟩
  refine Q.rn ?_; (repeat (intro b1; refine Q.rn ?_))
  exact N.r1 (RV.tmp rfl RV.nil) (Ent.refl _) ⟨rfl, rfl⟩
def hintN : Sort.Hint → Int
  | .unknown => 0
  | .increasing => 1
  | .decreasing => 2
set_option maxHeartbeats 8000000 in
theorem choosePivot_spec (bk n c a b : Nat) (d : Array Int) (rs : List Value) (L : List HP) (hd : d.size = n) (ha : a < b) (hb : b ≤ n) (hn : n ≤ 17592186044416) :
    CallsS Tryd.prog 89 [SV bk n c, .int .i64 a, .int .i64 b] (AR bk d rs :: L)
      (fun v L' => v = .tuple #[.int .i64 (Sort.choosePivot Sort.ltInt d a b).1, .int .i64 (hintN (Sort.choosePivot Sort.ltInt d a b).2)] ∧ L' = AR bk d rs :: L) := by
  refine CallsS.of_body Tryd.func89 rfl rfl rfl ?_
  refine Q.rn ?_; (repeat (intro b1; refine Q.rn ?_))
  obtain ⟨p, hp⟩ : ∃ p, p = b1 := ⟨_, rfl⟩
  rw [← hp]
  obtain ⟨r, hr⟩ : ∃ r : Nat × Nat, r = (if b - a ≥ 8 then if b - a ≥ 50 then
      Sort.median Sort.ltInt d (Sort.medianAdjacent Sort.ltInt d (a + (b - a) / 4 * 1) 0).1 (Sort.medianAdjacent Sort.ltInt d (a + (b - a) / 4 * 2) (Sort.medianAdjacent Sort.ltInt d (a + (b - a) / 4 * 1) 0).2).1
        (Sort.medianAdjacent Sort.ltInt d (a + (b - a) / 4 * 3) (Sort.medianAdjacent Sort.ltInt d (a + (b - a) / 4 * 2) (Sort.medianAdjacent Sort.ltInt d (a + (b - a) / 4 * 1) 0).2).2).1
        (Sort.medianAdjacent Sort.ltInt d (a + (b - a) / 4 * 3) (Sort.medianAdjacent Sort.ltInt d (a + (b - a) / 4 * 2) (Sort.medianAdjacent Sort.ltInt d (a + (b - a) / 4 * 1) 0).2).2).2
      else Sort.median Sort.ltInt d (a + (b - a) / 4 * 1) (a + (b - a) / 4 * 2) (a + (b - a) / 4 * 3) 0 else (a + (b - a) / 4 * 2, 0)) := ⟨_, rfl⟩
  have hc : Sort.choosePivot Sort.ltInt d a b = (r.1, if r.2 = 0 then .increasing else if r.2 = 12 then .decreasing else .unknown) := by rw [hr]; rfl
  rw [hc]
  clear hc
  refine swp_ent (Ent.perm (.swap _ _ _)) ?_
  refine swp_cutT (σ := Unit) (fun _ => [(11, .int .i64 r.1), (9, .pointer (some ⟨p, 0, none⟩))]) (fun _ => AR bk d rs :: SW p r.2 :: L) (fun _ => True) ?_ ?_
  · by_cases h8 : b - a ≥ 8
    · rw [if_pos h8] at hr
      by_cases h50 : b - a ≥ 50
      · rw [if_pos h50] at hr
        refine Q.rn ?_; (repeat (intro b1; refine Q.rn ?_))
        refine S.cr rfl (medianAdjacent_spec bk n c (a + (b - a) / 4 * 1) p 0 d rs L hd (by omega) (by omega) hn (by omega)) ?_
        rintro _ _ ⟨rfl, rfl⟩
        have q1 : (Sort.medianAdjacent Sort.ltInt d (a + (b - a) / 4 * 1) 0).1 < n ∧ (Sort.medianAdjacent Sort.ltInt d (a + (b - a) / 4 * 1) 0).2 ≤ 0 + 3 := median_in (by omega) (by omega) (by omega)
        generalize Sort.medianAdjacent Sort.ltInt d (a + (b - a) / 4 * 1) 0 = ri at q1 hr
        refine Q.rn ?_; (repeat (intro b1; refine Q.rn ?_))
        refine S.cr rfl (medianAdjacent_spec bk n c (a + (b - a) / 4 * 2) p ri.2 d rs L hd (by omega) (by omega) hn (by omega)) ?_
        rintro _ _ ⟨rfl, rfl⟩
        have q2 : (Sort.medianAdjacent Sort.ltInt d (a + (b - a) / 4 * 2) ri.2).1 < n ∧ (Sort.medianAdjacent Sort.ltInt d (a + (b - a) / 4 * 2) ri.2).2 ≤ ri.2 + 3 := median_in (by omega) (by omega) (by omega)
        generalize Sort.medianAdjacent Sort.ltInt d (a + (b - a) / 4 * 2) ri.2 = rj at q2 hr
        refine Q.rn ?_; (repeat (intro b1; refine Q.rn ?_))
        refine S.cr rfl (medianAdjacent_spec bk n c (a + (b - a) / 4 * 3) p rj.2 d rs L hd (by omega) (by omega) hn (by omega)) ?_
        rintro _ _ ⟨rfl, rfl⟩
        have q3 : (Sort.medianAdjacent Sort.ltInt d (a + (b - a) / 4 * 3) rj.2).1 < n ∧ (Sort.medianAdjacent Sort.ltInt d (a + (b - a) / 4 * 3) rj.2).2 ≤ rj.2 + 3 := median_in (by omega) (by omega) (by omega)
        generalize Sort.medianAdjacent Sort.ltInt d (a + (b - a) / 4 * 3) rj.2 = rk at q3 hr
        refine Q.rn ?_; (repeat (intro b1; refine Q.rn ?_))
        refine S.cr rfl (median_spec bk n c ri.1 rj.1 rk.1 p rk.2 d rs L hd q1.1 q2.1 q3.1 hn (by omega)) ?_
        rintro _ _ ⟨rfl, rfl⟩
        rw [← hr]
        refine Q.rn ?_; (repeat (intro b1; refine Q.rn ?_))
        first | refine N.tn ?_ | skip
        exact ⟨(), ⟨rfl, rfl, trivial⟩, Ent.refl _, trivial⟩
      · rw [if_neg h50] at hr
        refine Q.rn ?_; (repeat (intro b1; refine Q.rn ?_))
        refine S.cr rfl (median_spec bk n c (a + (b - a) / 4 * 1) (a + (b - a) / 4 * 2) (a + (b - a) / 4 * 3) p 0 d rs L hd (by omega) (by omega) (by omega) hn (by omega)) ?_
        rintro _ _ ⟨rfl, rfl⟩
        rw [← hr]
        refine Q.rn ?_; (repeat (intro b1; refine Q.rn ?_))
        first | refine N.tn ?_ | skip
        exact ⟨(), ⟨rfl, rfl, trivial⟩, Ent.refl _, trivial⟩
    · rw [if_neg h8] at hr
      subst hr
      refine Q.rn ?_; (repeat (intro b1; refine Q.rn ?_))
      first | refine N.tn ?_ | skip
      exact ⟨(), ⟨rfl, rfl, trivial⟩, Ent.refl _, trivial⟩
  rintro _ _
  clear hr
  obtain ⟨m, w⟩ := r
  by_cases h0 : w = 0
  · subst h0
    refine Q.rn ?_; (repeat (intro b1; refine Q.rn ?_))
    exact N.r2 (RV.tmp rfl (RV.tmp rfl RV.nil)) (Ent.cons (Ent.drop (Ent.refl _))) ⟨rfl, rfl⟩
  by_cases h12 : w = 12
  · subst h12
    refine Q.rn ?_; (repeat (intro b1; refine Q.rn ?_))
    exact N.r2 (RV.tmp rfl (RV.tmp rfl RV.nil)) (Ent.cons (Ent.drop (Ent.refl _))) ⟨rfl, rfl⟩
  refine Q.rn ?_; (repeat (intro b1; refine Q.rn ?_))
  exact N.r2 (RV.tmp rfl (RV.tmp rfl RV.nil)) (Ent.cons (Ent.drop (Ent.refl _))) ⟨by simp only [if_neg h0, if_neg h12]; rfl, rfl⟩
end Go.Proofs.YtiampehfpgcogaaDoor
namespace Go.Proofs.YtiampehfpgcogaaDoor
open Go Go.SX
attribute [local irreducible] swp opsS thenS blockS retS CallsS St Ent YieldS anyS drawS
attribute [local irreducible] ar
set_option maxHeartbeats 4000000 in
theorem Len64_spec (x : Nat) (hx : x < 18446744073709551616) (L : List HP) : CallsS Tryd.prog 83 [.int .u64 x] L (fun v L' => v = .int .i64 (Sort.bitsLen x) ∧ L' = L) := by
  refine CallsS.of_body Tryd.func83 rfl rfl rfl ?_
  have h1 : x < 18446744073709551616 := hx
  have h2 : 0 ≤ 0 := Nat.le_refl _
  have h3 : 0 + Sort.bitsLen x = Sort.bitsLen x := by simp
  obtain ⟨y, hy⟩ : ∃ y, y = x := ⟨_, rfl⟩
  obtain ⟨m, hm⟩ : ∃ m, m = 0 := ⟨_, rfl⟩
  rw [← hy] at h1 ⊢
  rw [← hm] at h2
  have h3 : m + Sort.bitsLen y = Sort.bitsLen y := by omega
  refine Q.rn ?_; (repeat (intro b1; refine Q.rn ?_))
  refine swp_cutT (σ := Nat × Nat) (fun s => [(0, .int .u64 s.1), (2, .int .i64 s.2)]) (fun _ => L) (fun s => s.1 < 4294967296 ∧ s.2 ≤ 32 ∧ s.2 + Sort.bitsLen s.1 = Sort.bitsLen y) ?_ ?_
  · by_cases h : 4294967296 ≤ y
    · have hdv : y / 2 ^ 32 < 4294967296 := by omega
      have hbl : Sort.bitsLen y = 32 + Sort.bitsLen (y / 2 ^ 32) := bitsLen_shift (by omega)
      refine Q.rn ?_; (repeat (intro b1; refine Q.rn ?_))
      refine S.y (Y.shr (a := y) (b := 32) rfl rfl (by decide)) ?_
      generalize y / 2 ^ 32 = z at hdv hbl
      refine Q.rn ?_; (repeat (intro b1; refine Q.rn ?_))
      first | refine N.tn ?_ | skip
      exact ⟨(z, 32), ⟨rfl, rfl, trivial⟩, Ent.refl _, hdv, by dsimp only; omega, by dsimp only; omega⟩
    · refine Q.rn ?_; (repeat (intro b1; refine Q.rn ?_))
      first | refine N.tn ?_ | skip
      exact ⟨(y, 0), ⟨rfl, rfl, trivial⟩, Ent.refl _, by dsimp only; omega, by dsimp only; omega, by simp⟩
  obtain ⟨x, hx2⟩ : ∃ x, x = y := ⟨_, rfl⟩
  rw [← hx2]
  clear h1 h2 h3 hy hm hx2 hx
  rintro ⟨y, m⟩ ⟨h1, h2, h3⟩
  dsimp only at h1 h2 h3 ⊢
  refine Q.rn ?_; (repeat (intro b1; refine Q.rn ?_))
  refine swp_cutT (σ := Nat × Nat) (fun s => [(0, .int .u64 s.1), (2, .int .i64 s.2)]) (fun _ => L) (fun s => s.1 < 65536 ∧ s.2 ≤ 48 ∧ s.2 + Sort.bitsLen s.1 = Sort.bitsLen x) ?_ ?_
  · by_cases h : 65536 ≤ y
    · have hdv : y / 2 ^ 16 < 65536 := by omega
      have hbl : Sort.bitsLen y = 16 + Sort.bitsLen (y / 2 ^ 16) := bitsLen_shift (by omega)
      refine Q.rn ?_; (repeat (intro b1; refine Q.rn ?_))
      refine S.y (Y.shr (a := y) (b := 16) rfl rfl (by decide)) ?_
      generalize y / 2 ^ 16 = z at hdv hbl
      refine Q.rn ?_; (repeat (intro b1; refine Q.rn ?_))
      first | refine N.tn ?_ | skip
      exact ⟨(z, m + 16), ⟨rfl, rfl, trivial⟩, Ent.refl _, hdv, by dsimp only; omega, by dsimp only; omega⟩
    · refine Q.rn ?_; (repeat (intro b1; refine Q.rn ?_))
      first | refine N.tn ?_ | skip
      exact ⟨(y, m), ⟨rfl, rfl, trivial⟩, Ent.refl _, by dsimp only; omega, by dsimp only; omega, h3⟩
  clear h1 h2 h3
  rintro ⟨y, m⟩ ⟨h1, h2, h3⟩
  dsimp only at h1 h2 h3 ⊢
  refine Q.rn ?_; (repeat (intro b1; refine Q.rn ?_))
  refine swp_cutT (σ := Nat × Nat) (fun s => [(0, .int .u64 s.1), (2, .int .i64 s.2)]) (fun _ => L) (fun s => s.1 < 256 ∧ s.2 ≤ 56 ∧ s.2 + Sort.bitsLen s.1 = Sort.bitsLen x) ?_ ?_
  · by_cases h : 256 ≤ y
    · have hdv : y / 2 ^ 8 < 256 := by omega
      have hbl : Sort.bitsLen y = 8 + Sort.bitsLen (y / 2 ^ 8) := bitsLen_shift (by omega)
      refine Q.rn ?_; (repeat (intro b1; refine Q.rn ?_))
      refine S.y (Y.shr (a := y) (b := 8) rfl rfl (by decide)) ?_
      generalize y / 2 ^ 8 = z at hdv hbl
      refine Q.rn ?_; (repeat (intro b1; refine Q.rn ?_))
      first | refine N.tn ?_ | skip
      exact ⟨(z, m + 8), ⟨rfl, rfl, trivial⟩, Ent.refl _, hdv, by dsimp only; omega, by dsimp only; omega⟩
    · refine Q.rn ?_; (repeat (intro b1; refine Q.rn ?_))
      first | refine N.tn ?_ | skip
      exact ⟨(y, m), ⟨rfl, rfl, trivial⟩, Ent.refl _, by dsimp only; omega, by dsimp only; omega, h3⟩
  clear h1 h2 h3
  rintro ⟨y, m⟩ ⟨h1, h2, h3⟩
  dsimp only at h1 h2 h3 ⊢
  refine Q.rn ?_; (repeat (intro b1; refine Q.rn ?_))
  have hy8 : IntKind.u8.wrap (y : Int) = (y : Int) := wrap_u8 (by omega) (by omega)
  refine S.y (Y.cvi rfl) ?_
  rw [hy8]
  have hb8 : Sort.bitsLen y ≤ 8 := by
    have : ∀ y : Nat, y < 256 → Sort.bitsLen y ≤ 8 := by decide +kernel
    exact this y h1
  refine S.y (Y.idx (i := y) (b := UInt8.ofNat (Sort.bitsLen y)) rfl rfl (by clear h2 h3 hy8 hb8 m; revert y; decide +kernel)) ?_
  have e8 : (UInt8.ofNat (Sort.bitsLen y)).toNat = Sort.bitsLen y := by simp; omega
  rw [e8]
  refine S.y (Y.cvi rfl) ?_
  rw [wrap_i64 (by omega) (by omega)]
  refine Q.rn ?_; (repeat (intro b1; refine Q.rn ?_))
  exact N.r1 (RV.tmp rfl RV.nil) (Ent.refl _) ⟨congrArg (Value.int .i64) (by omega), rfl⟩
theorem Len_spec (x : Nat) (hx : x < 18446744073709551616) (L : List HP) : CallsS Tryd.prog 66 [.int .u64 x] L (fun v L' => v = .int .i64 (Sort.bitsLen x) ∧ L' = L) := by
  refine CallsS.of_body Tryd.func66 rfl rfl rfl ?_
  refine Q.rn ?_; (repeat (intro b1; refine Q.rn ?_))
  refine S.cr rfl (Len64_spec x hx L) ?_
  rintro _ _ ⟨rfl, rfl⟩
  refine Q.rn ?_; (repeat (intro b1; refine Q.rn ?_))
  exact N.r1 (RV.tmp rfl RV.nil) (Ent.refl _) ⟨rfl, rfl⟩
theorem npow_spec (x : Nat) (hx : x ≤ 17592186044416) (L : List HP) : CallsS Tryd.prog 96 [.int .i64 x] L (fun v L' => v = .int .u64 ((1 <<< Sort.bitsLen x : Nat) : Int) ∧ L' = L) := by
  have hl : Sort.bitsLen x ≤ 45 := (Sort.bitsLen_le_iff x 45).2 (by omega)
  have hp : 2 ^ Sort.bitsLen x ≤ 2 ^ 45 := Nat.pow_le_pow_right (by omega) hl
  refine CallsS.of_body Tryd.func96 rfl rfl rfl ?_
  refine Q.rn ?_; (repeat (intro b1; refine Q.rn ?_))
  refine S.y (Y.cvi rfl) ?_
  rw [wrap_u64 (by omega) (by omega)]
  refine S.cr rfl (Len_spec x (by omega) L) ?_
  rintro _ _ ⟨rfl, rfl⟩
  refine S.y (Y.shl (a := 1) (b := Sort.bitsLen x) rfl rfl (Nat.le_trans hl (by decide))) ?_
  rw [show 1 * 2 ^ Sort.bitsLen x = 1 <<< Sort.bitsLen x by rw [Nat.one_shiftLeft, Nat.one_mul], wrap_u64 (Int.natCast_nonneg _) (by rw [Nat.one_shiftLeft]; generalize 2 ^ Sort.bitsLen x = q at hp; omega)]
  refine Q.rn ?_; (repeat (intro b1; refine Q.rn ?_))
  exact N.r1 (RV.tmp rfl RV.nil) (Ent.refl _) ⟨rfl, rfl⟩
abbrev RN (p : Nat) (r : UInt64) : HP := pt p (cl [.int .u64 (r.toNat : Int)] 148)
set_option maxHeartbeats 4000000 in
theorem Next_spec (p : Nat) (r : UInt64) (L : List HP) : CallsS Tryd.prog 97 [.pointer (some ⟨p, 0, none⟩)] (RN p r :: L) (fun v L' => v = .int .u64 ((Sort.xorNext r).toNat : Int) ∧ L' = RN p (Sort.xorNext r) :: L) := by
  refine CallsS.of_body Tryd.func97 rfl rfl rfl ?_
  refine Q.rn ?_; (repeat (intro b1; refine Q.rn ?_))
  refine Q.dgo [true] [9] [9] [0, 1, 2, 3, 4, 5, 6, 7, 8, 9] ?_
  (refine Q.rdn ?_; (repeat (intro b1; refine Q.rdn ?_)))
  refine D.yp rfl rfl rfl (Y.shl (a := _) (b := 13) rfl rfl (by decide)) ?_
  rw [shl64 _ 13 (by decide)]
  refine D.yp rfl rfl rfl (Y.xor rfl rfl) ?_
  rw [xor64]
  (refine Q.rdn ?_; (repeat (intro b1; refine Q.rdn ?_)))
  refine Q.dc rfl rfl rfl rfl ?_
  (refine Q.rn ?_; (repeat (intro b1; refine Q.rn ?_)))
  (refine Q.rdn ?_; (repeat (intro b1; refine Q.rdn ?_)))
  (refine Q.rn ?_; (repeat (intro b1; refine Q.rn ?_)))
  refine Q.dgo [true] [9] [9] [0, 1, 2, 3, 4, 5, 6, 7, 8, 9] ?_
  (refine Q.rdn ?_; (repeat (intro b1; refine Q.rdn ?_)))
  refine D.yp rfl rfl rfl (Y.shr (a := _) (b := 7) rfl rfl (by decide)) ?_
  rw [shr64 _ 7 (by decide)]
  refine D.yp rfl rfl rfl (Y.xor rfl rfl) ?_
  rw [xor64]
  (refine Q.rdn ?_; (repeat (intro b1; refine Q.rdn ?_)))
  refine Q.dc rfl rfl rfl rfl ?_
  (refine Q.rn ?_; (repeat (intro b1; refine Q.rn ?_)))
  (refine Q.rdn ?_; (repeat (intro b1; refine Q.rdn ?_)))
  (refine Q.rn ?_; (repeat (intro b1; refine Q.rn ?_)))
  refine Q.dgo [true] [9] [9] [0, 1, 2, 3, 4, 5, 6, 7, 8, 9] ?_
  (refine Q.rdn ?_; (repeat (intro b1; refine Q.rdn ?_)))
  refine D.yp rfl rfl rfl (Y.shl (a := _) (b := 17) rfl rfl (by decide)) ?_
  rw [shl64 _ 17 (by decide)]
  refine D.yp rfl rfl rfl (Y.xor rfl rfl) ?_
  rw [xor64]
  (refine Q.rdn ?_; (repeat (intro b1; refine Q.rdn ?_)))
  refine Q.dc rfl rfl rfl rfl ?_
  (refine Q.rn ?_; (repeat (intro b1; refine Q.rn ?_)))
  (refine Q.rdn ?_; (repeat (intro b1; refine Q.rdn ?_)))
  (refine Q.rn ?_; (repeat (intro b1; refine Q.rn ?_)))
  exact N.r1 (RV.tmp rfl RV.nil) (Ent.refl _) ⟨rfl, rfl⟩
end Go.Proofs.YtiampehfpgcogaaDoor
namespace Go.Proofs.YtiampehfpgcogaaDoor
open Go Go.SX
attribute [local irreducible] swp opsS thenS blockS retS CallsS St Ent YieldS anyS drawS
attribute [local irreducible] ar
def bkIt (a l m base : Nat) (d : Array Int) : Nat → UInt64 × Array Int
  | 0 => (UInt64.ofNat l, d)
  | k + 1 => Sort.breakStep a l m (bkIt a l m base d k) (base + k)
theorem bkIt_size (a l m base : Nat) (d : Array Int) : ∀ k, (bkIt a l m base d k).2.size = d.size
  | 0 => rfl
  | k + 1 => by simp only [bkIt, Sort.breakStep, swp_size]; exact bkIt_size a l m base d k
set_option maxHeartbeats 8000000 in
theorem breakPatterns_spec (bk n c a b : Nat) (d : Array Int) (rs : List Value) (L : List HP) (hd : d.size = n) (h8 : a + 8 ≤ b) (hb : b ≤ n) (hn : n ≤ 17592186044416) :
    CallsS Tryd.prog 88 [SV bk n c, .int .i64 a, .int .i64 b] (AR bk d rs :: L) (fun v L' => v = .tuple #[] ∧ L' = AR bk (Sort.breakPatterns d a b) rs :: L) := by
  have hl : Sort.bitsLen (b - a) ≤ 45 := (Sort.bitsLen_le_iff (b - a) 45).2 (by omega)
  have hp : 1 <<< Sort.bitsLen (b - a) ≤ 2 ^ 45 := by rw [Nat.one_shiftLeft]; exact Nat.pow_le_pow_right (by omega) hl
  have hp2 : 1 <<< Sort.bitsLen (b - a) ≤ 2 * (b - a) := by rw [Nat.one_shiftLeft]; exact Sort.two_pow_bitsLen_le (by omega)
  have hp0 : 0 < 1 <<< Sort.bitsLen (b - a) := by rw [Nat.one_shiftLeft]; exact Nat.two_pow_pos _
  have hres : Sort.breakPatterns d a b = (bkIt a (b - a) (1 <<< Sort.bitsLen (b - a)) (a + (b - a) / 4 * 2 - 1) d 3).2 := by
    unfold Sort.breakPatterns
    rw [if_pos (show b - a ≥ 8 by omega)]
    rfl
  rw [hres]
  clear hres
  obtain ⟨md, hmd⟩ : ∃ md, md = 1 <<< Sort.bitsLen (b - a) := ⟨_, rfl⟩
  have hu : IntKind.u64.wrap ((b - a : Nat) : Int) = ((UInt64.ofNat (b - a)).toNat : Int) := by
    rw [wrap_u64 (by omega) (by omega)]; simp; omega
  refine CallsS.of_body Tryd.func88 rfl rfl rfl ?_
  refine Q.rn ?_; (repeat (intro b1; refine Q.rn ?_))
  refine S.y (Y.cvi rfl) ?_
  rw [hu]
  refine Q.rn ?_; (repeat (intro b1; refine Q.rn ?_))
  refine S.cr rfl (npow_spec (b - a) (by omega) _) ?_
  rintro _ _ ⟨rfl, rfl⟩
  rw [← hmd] at hp hp2 hp0 ⊢
  refine Q.rn ?_; (repeat (intro b1; refine Q.rn ?_))
  obtain ⟨base, hbase⟩ : ∃ base, base = a + (b - a) / 4 * 2 - 1 := ⟨_, rfl⟩
  rw [← hbase]
  refine swp_loop (σ := Nat) (fun k => [(0, SV bk n c), (1, .int .i64 a), (6, .int .i64 (b - a : Nat)), (7, .pointer (some ⟨b1, 0, none⟩)), (8, .int .u64 md), (9, .int .i64 (base + k : Nat))])
    (fun k => RN b1 (bkIt a (b - a) md base d k).1 :: AR bk (bkIt a (b - a) md base d k).2 rs :: L) (fun k => k ≤ 3) (fun k => 3 - k) 0 ⟨rfl, rfl, rfl, rfl, rfl, rfl, trivial⟩ (Ent.refl _) (by omega) ?_
  intro k hk
  have hsz := bkIt_size a (b - a) md base d k
  rw [hd] at hsz
  by_cases hk3 : k = 3
  · subst hk3
    refine Q.rn ?_; (repeat (intro b1; refine Q.rn ?_))
    refine N.n0 RV.nil (Ent.drop (Ent.refl _)) ⟨rfl, rfl⟩
  · have hnx : bkIt a (b - a) md base d (k + 1) = Sort.breakStep a (b - a) md (bkIt a (b - a) md base d k) (base + k) := rfl
    have hgoal : ∀ r e, (Sort.xorNext (bkIt a (b - a) md base d k).1) = r → (bkIt a (b - a) md base d k).2 = e → bkIt a (b - a) md base d (k + 1) = (r, Sort.swp e (base + k) (a + (if r.toNat &&& (md - 1) ≥ b - a then (r.toNat &&& (md - 1)) - (b - a) else r.toNat &&& (md - 1)))) := fun r e h1 h2 => by rw [hnx, ← h1, ← h2]; rfl
    refine Q.rn ?_; (repeat (intro b1; refine Q.rn ?_))
    refine S.cr rfl (Next_spec b1 _ _) ?_
    rintro _ _ ⟨rfl, rfl⟩
    generalize hr : Sort.xorNext (bkIt a (b - a) md base d k).1 = r at hgoal
    generalize he : (bkIt a (b - a) md base d k).2 = e at hgoal hsz
    have hg := hgoal r e rfl rfl
    have hand : r.toNat &&& (md - 1) ≤ md - 1 := Nat.and_le_right
    refine Q.rn ?_; (repeat (intro b1; refine Q.rn ?_))
    refine S.y (Y.sub rfl rfl) ?_
    rw [show ((md : Int) - 1) = ((md - 1 : Nat) : Int) by omega, wrap_u64 (by omega) (by omega)]
    refine S.y (Y.and rfl rfl) ?_
    rw [and64 _ _ (by have := r.toNat_lt; omega) (by omega)]
    refine S.y (Y.cvi rfl) ?_
    rw [wrap_i64 (by omega) (by omega)]
    obtain ⟨o, ho⟩ : ∃ o, o = r.toNat &&& (md - 1) := ⟨_, rfl⟩
    rw [← ho] at hand hg ⊢
    by_cases hol : o ≥ b - a
    · rw [if_pos hol] at hg
      refine Q.rn ?_; (repeat (intro b1; refine Q.rn ?_))
      refine Q.dgo [false, true] [17, 19] [17] [0, 1, 2, 3, 4, 5, 6, 7, 8, 9, 10, 11, 12, 13, 14, 15, 16, 17, 18, 19] ?_
      (refine Q.rdn ?_; (repeat (intro b1; refine Q.rdn ?_))); refine Q.dc rfl rfl rfl rfl ?_; (refine Q.rn ?_; (repeat (intro b1; refine Q.rn ?_))); (refine Q.rdn ?_; (repeat (intro b1; refine Q.rdn ?_))); refine D.e rfl rfl rfl ?_; (refine Q.rn ?_; (repeat (intro b1; refine Q.rn ?_))); (refine Q.rdn ?_; (repeat (intro b1; refine Q.rdn ?_))); (refine Q.rn ?_; (repeat (intro b1; refine Q.rn ?_)))
      refine ⟨k + 1, ⟨rfl, rfl, rfl, rfl, rfl, rfl, trivial⟩, ?_, by omega, by omega⟩
      rw [hg]
      exact Ent.perm (.swap _ _ _)
    · rw [if_neg hol] at hg
      refine Q.rn ?_; (repeat (intro b1; refine Q.rn ?_))
      refine Q.dgo [false, true] [17, 19] [17] [0, 1, 2, 3, 4, 5, 6, 7, 8, 9, 10, 11, 12, 13, 14, 15, 16, 17, 18, 19] ?_
      (refine Q.rdn ?_; (repeat (intro b1; refine Q.rdn ?_))); refine Q.dc rfl rfl rfl rfl ?_; (refine Q.rn ?_; (repeat (intro b1; refine Q.rn ?_))); (refine Q.rdn ?_; (repeat (intro b1; refine Q.rdn ?_))); refine D.e rfl rfl rfl ?_; (refine Q.rn ?_; (repeat (intro b1; refine Q.rn ?_))); (refine Q.rdn ?_; (repeat (intro b1; refine Q.rdn ?_))); (refine Q.rn ?_; (repeat (intro b1; refine Q.rn ?_)))
      refine ⟨k + 1, ⟨rfl, rfl, rfl, rfl, rfl, rfl, trivial⟩, ?_, by omega, by omega⟩
      rw [hg]
      exact Ent.perm (.swap _ _ _)
end Go.Proofs.YtiampehfpgcogaaDoor
namespace Go.Proofs.YtiampehfpgcogaaDoor
open Go Go.SX
attribute [local irreducible] swp opsS thenS blockS retS CallsS St Ent YieldS anyS drawS
attribute [local irreducible] ar
abbrev lI := Sort.ltInt
theorem below_perm {a b : Nat} {d d' : Array Int} (h : Sort.Below lI a b d) (hb : b ≤ d.size) (hp : Sort.PermIn a b d d') : Sort.Below lI a b d' := Sort.Below.permA Sort.permIn_all hb h hp
set_option maxHeartbeats 20000000 in
theorem pdq_spec (bk n c : Nat) (rs : List Value) (L : List HP) (hn : n ≤ 17592186044416) : ∀ (k a b lim : Nat) (d : Array Int), b - a = k → d.size = n → a ≤ b → b ≤ n → lim ≤ 1000 → Sort.Below lI a b d →
    CallsS Tryd.prog 72 [SV bk n c, .int .i64 a, .int .i64 b, .int .i64 lim] (AR bk d rs :: L) (fun v L' => v = .tuple #[] ∧ ∃ e, L' = AR bk e rs :: L ∧ Sort.PermIn a b d e ∧ Sort.SortedIn lI a b e) := by
  intro k
  induction k using Nat.strongRecOn with
  | _ k ih =>
  intro a b lim d hk hd hab hb hlim hbel
  refine CallsS.of_body Tryd.func72 rfl rfl rfl ?_
  refine Q.rn ?_; (repeat (intro b1; refine Q.rn ?_))
  refine swp_loop (σ := Nat × Nat × Nat × Bool × Bool × Array Int) (fun s => [(0, SV bk n c), (1, .int .i64 s.1), (2, .int .i64 s.2.1), (3, .int .i64 s.2.2.1), (8, .bool s.2.2.2.1), (9, .bool s.2.2.2.2.1)]) (fun s => AR bk s.2.2.2.2.2 rs :: L)
    (fun s => s.1 ≤ s.2.1 ∧ s.2.1 ≤ n ∧ s.2.1 - s.1 ≤ k ∧ s.2.2.1 ≤ 1000 ∧ s.2.2.2.2.2.size = n ∧ Sort.Below lI s.1 s.2.1 s.2.2.2.2.2 ∧ ∀ R, Sort.PermIn s.1 s.2.1 s.2.2.2.2.2 R → Sort.SortedIn lI s.1 s.2.1 R → Sort.PermIn a b d R ∧ Sort.SortedIn lI a b R)
    (fun s => s.2.1 - s.1) (a, b, lim, true, true, d) ⟨rfl, rfl, rfl, rfl, rfl, rfl, trivial⟩ (Ent.refl _) ⟨hab, hb, Nat.le_of_eq hk, hlim, hd, hbel, fun R h1 h2 => ⟨h1, h2⟩⟩ ?_
  rintro ⟨a1, b1, lm, wb, wp, e⟩ ⟨g1, g2, g3, g4, g5, g6, g7⟩
  dsimp only at g1 g2 g3 g4 g5 g6 g7 ⊢
  by_cases h12 : b1 - a1 ≤ 12
  · refine Q.rn ?_; (repeat (intro b1; refine Q.rn ?_))
    refine S.cr rfl (insertionSort_spec bk n c a1 b1 e rs L g5 (by omega) g2 (by omega)) ?_
    rintro _ _ ⟨rfl, rfl⟩
    refine Q.rn ?_; (repeat (intro b1; refine Q.rn ?_))
    have := Sort.insertionSort_holds Sort.swo_ltInt e a1 b1 g1 (by omega)
    exact N.r0 RV.nil (Ent.refl _) ⟨rfl, _, rfl, g7 _ this.1 this.2⟩
  by_cases hl0 : lm = 0
  · subst hl0
    refine Q.rn ?_; (repeat (intro b1; refine Q.rn ?_))
    refine S.cr rfl (heapSort_spec bk n c a1 b1 e rs L g5 (by omega) g2 hn) ?_
    rintro _ _ ⟨rfl, rfl⟩
    refine Q.rn ?_; (repeat (intro b1; refine Q.rn ?_))
    have := Sort.heapSort_holds Sort.swo_ltInt e a1 b1 g1 (by omega)
    exact N.r0 RV.nil (Ent.refl _) ⟨rfl, _, rfl, g7 _ this.1 this.2⟩
  refine Q.rn ?_; (repeat (intro b1; refine Q.rn ?_))
  refine swp_cutT (σ := Nat × Array Int) (fun s => [(0, SV bk n c), (1, .int .i64 a1), (2, .int .i64 b1), (3, .int .i64 s.1), (8, .bool wb), (9, .bool wp), (10, .int .i64 (b1 - a1 : Nat))]) (fun s => AR bk s.2 rs :: L) (fun s => s.1 ≤ 1000 ∧ Sort.PermIn a1 b1 e s.2) ?_ ?_
  · cases wb with
    | true =>
      refine Q.rn ?_; (repeat (intro b1; refine Q.rn ?_))
      first | refine N.tn ?_ | skip
      exact ⟨(lm, e), ⟨rfl, rfl, rfl, rfl, rfl, rfl, rfl, trivial⟩, Ent.refl _, g4, Sort.permIn_refl _ _ _⟩
    | false =>
      refine Q.rn ?_; (repeat (intro b1; refine Q.rn ?_))
      refine S.cr rfl (breakPatterns_spec bk n c a1 b1 e rs L g5 (by omega) g2 hn) ?_
      rintro _ _ ⟨rfl, rfl⟩
      refine Q.rn ?_; (repeat (intro b1; refine Q.rn ?_))
      first | refine N.tn ?_ | skip
      exact ⟨(lm - 1, _), ⟨rfl, rfl, rfl, rfl, rfl, rfl, rfl, trivial⟩, Ent.refl _, by dsimp only; omega, Sort.breakPatterns_holds _ _ _ g1 (by omega)⟩
  rintro ⟨l1, e1⟩ ⟨q1, q2⟩
  dsimp only at q1 q2 ⊢
  have q3 : e1.size = n := by rw [q2.1]; exact g5
  refine Q.rn ?_; (repeat (intro b1; refine Q.rn ?_))
  refine S.cr rfl (choosePivot_spec bk n c a1 b1 e1 rs L q3 (by omega) g2 hn) ?_
  rintro _ _ ⟨rfl, rfl⟩
  have hcp := Sort.choosePivot_holds Sort.ltInt e1 a1 b1 (by omega)
  generalize Sort.choosePivot Sort.ltInt e1 a1 b1 = cp at hcp
  obtain ⟨pv, hint⟩ := cp
  dsimp only at hcp ⊢
  refine Q.rn ?_; (repeat (intro b1; refine Q.rn ?_))
  refine swp_cutT (σ := Nat × Int × Array Int) (fun s => [(0, SV bk n c), (1, .int .i64 a1), (2, .int .i64 b1), (3, .int .i64 l1), (8, .bool wb), (9, .bool wp), (10, .int .i64 (b1 - a1 : Nat)), (11, .int .i64 s.1), (12, .int .i64 s.2.1)]) (fun s => AR bk s.2.2 rs :: L) (fun s => a1 ≤ s.1 ∧ s.1 < b1 ∧ Sort.PermIn a1 b1 e1 s.2.2) ?_ ?_
  · by_cases hdec : hintN hint = 2
    · refine Q.rn ?_; (repeat (intro b1; refine Q.rn ?_))
      refine S.cr rfl (reverseRange_spec bk n c a1 b1 e1 rs L q3 (by omega) g2 hn) ?_
      rintro _ _ ⟨rfl, rfl⟩
      refine Q.rn ?_; (repeat (intro b1; refine Q.rn ?_))
      first | refine N.tn ?_ | skip
      exact ⟨(b1 - 1 - (pv - a1), 1, _), ⟨rfl, rfl, rfl, rfl, rfl, rfl, rfl, rfl, rfl, trivial⟩, Ent.refl _, by dsimp only; omega, by dsimp only; omega, Sort.reverseRange_holds _ _ _ g1 (by omega)⟩
    · refine Q.rn ?_; (repeat (intro b1; refine Q.rn ?_))
      first | refine N.tn ?_ | skip
      exact ⟨(pv, hintN hint, e1), ⟨rfl, rfl, rfl, rfl, rfl, rfl, rfl, rfl, rfl, trivial⟩, Ent.refl _, hcp.1, hcp.2, Sort.permIn_refl _ _ _⟩
  clear hcp
  rintro ⟨p, hh, e2⟩ ⟨p1, p2, p3⟩
  dsimp only at p1 p2 p3 ⊢
  have p4 : e2.size = n := by rw [p3.1]; exact q3
  have p5 : Sort.PermIn a1 b1 e e2 := Sort.permIn_trans _ _ _ a1 b1 q2 p3
  have p6 : Sort.Below lI a1 b1 e2 := below_perm g6 (by omega) p5
  clear p3 q2 q3
  repeat (refine swp_seq ?_)
  refine swp_cutT (σ := Bool) (fun s => [(0, SV bk n c), (1, .int .i64 a1), (2, .int .i64 b1), (3, .int .i64 l1), (8, .bool wb), (9, .bool wp), (10, .int .i64 (b1 - a1 : Nat)), (11, .int .i64 p), (68, .bool s)]) (fun s => AR bk e2 rs :: L) (fun s => True) ?_ ?_
  · cases wb with
    | false =>
      refine Q.rn ?_; (repeat (intro b1; refine Q.rn ?_))
      exact ⟨_, ⟨rfl, rfl, rfl, rfl, rfl, rfl, rfl, rfl, rfl, trivial⟩, Ent.refl _, trivial⟩
    | true =>
      cases wp with
      | false =>
        refine Q.rn ?_; (repeat (intro b1; refine Q.rn ?_))
        exact ⟨_, ⟨rfl, rfl, rfl, rfl, rfl, rfl, rfl, rfl, rfl, trivial⟩, Ent.refl _, trivial⟩
      | true =>
        refine Q.rn ?_; (repeat (intro b1; refine Q.rn ?_))
        exact ⟨_, ⟨rfl, rfl, rfl, rfl, rfl, rfl, rfl, rfl, rfl, trivial⟩, Ent.refl _, trivial⟩
  intro t68 _
  refine swp_cutT (σ := Array Int) (fun s => [(0, SV bk n c), (1, .int .i64 a1), (2, .int .i64 b1), (3, .int .i64 l1), (8, .bool wb), (9, .bool wp), (10, .int .i64 (b1 - a1 : Nat)), (11, .int .i64 p)]) (fun s => AR bk s rs :: L) (fun s => Sort.PermIn a1 b1 e s) ?_ ?_
  · cases t68 with
    | false =>
      refine Q.rn ?_; (repeat (intro b1; refine Q.rn ?_))
      first | refine N.tn ?_ | skip
      exact ⟨e2, ⟨rfl, rfl, rfl, rfl, rfl, rfl, rfl, rfl, trivial⟩, Ent.refl _, p5⟩
    | true =>
      refine Q.rn ?_; (repeat (intro b1; refine Q.rn ?_))
      refine S.cr rfl (partialInsertionSort_spec bk n c a1 b1 e2 rs L p4 (by omega) g2 hn) ?_
      rintro _ _ ⟨rfl, rfl⟩
      have hpi := Sort.partialInsertionSort_holds Sort.swo_ltInt e2 a1 b1 (by omega) (by omega) p6
      have hpp := Sort.permIn_trans _ _ _ a1 b1 p5 hpi.1
      cases hr : (Sort.partialInsertionSort Sort.ltInt e2 a1 b1).2 with
      | true =>
        refine Q.rn ?_; (repeat (intro b1; refine Q.rn ?_))
        exact N.r0 RV.nil (Ent.refl _) ⟨rfl, _, rfl, g7 _ hpp (hpi.2 hr)⟩
      | false =>
        refine Q.rn ?_; (repeat (intro b1; refine Q.rn ?_))
        first | refine N.tn ?_ | skip
        exact ⟨_, ⟨rfl, rfl, rfl, rfl, rfl, rfl, rfl, rfl, trivial⟩, Ent.refl _, hpp⟩
  clear p4 p5 p6
  intro e3 p5
  have p4 : e3.size = n := by rw [p5.1]; exact g5
  have p6 : Sort.Below lI a1 b1 e3 := below_perm g6 (by omega) p5
  repeat (refine swp_seq ?_)
  refine swp_cutT (σ := Bool) (fun s => [(0, SV bk n c), (1, .int .i64 a1), (2, .int .i64 b1), (3, .int .i64 l1), (8, .bool wb), (9, .bool wp), (10, .int .i64 (b1 - a1 : Nat)), (11, .int .i64 p), (87, .bool s)]) (fun s => AR bk e3 rs :: L) (fun s => s = (decide (a1 > 0) && !lI e3[a1 - 1]! e3[p]!)) ?_ ?_
  · by_cases ha0 : 0 < a1
    · refine Q.rn ?_; (repeat (intro b1; refine Q.rn ?_))
      refine Q.dgo [true] [12] [] [0, 1, 2, 3, 4, 5, 6, 7, 8, 9, 10, 11, 12, 13, 14] ?_
      refine Q.rdn ?_; (repeat (intro b1; refine Q.rdn ?_))
      refine D.e rfl rfl rfl ?_
      refine S.guard rfl ?_
      refine S.cr rfl (Less_spec _ _ _) ?_
      rintro _ M ⟨rfl, rfl⟩
      refine Q.rn ?_; (repeat (intro b1; refine Q.rn ?_))
      refine Q.rdn ?_; (repeat (intro b1; refine Q.rdn ?_))
      first | refine N.tn ?_ | skip
      exact ⟨_, ⟨rfl, rfl, rfl, rfl, rfl, rfl, rfl, rfl, rfl, trivial⟩, Ent.refl _, by simp [ha0]⟩
    · refine Q.rn ?_; (repeat (intro b1; refine Q.rn ?_))
      refine Q.dgo [true] [12] [] [0, 1, 2, 3, 4, 5, 6, 7, 8, 9, 10, 11, 12, 13, 14] ?_
      refine Q.rdn ?_; (repeat (intro b1; refine Q.rdn ?_))
      first | refine N.tn ?_ | skip
      exact ⟨_, ⟨rfl, rfl, rfl, rfl, rfl, rfl, rfl, rfl, rfl, trivial⟩, Ent.refl _, by simp [ha0]⟩
  intro s hs
  cases s with
  | true =>
    symm at hs
    simp only [Bool.and_eq_true, decide_eq_true_eq, Bool.not_eq_true'] at hs
    refine Q.rn ?_; (repeat (intro b1; refine Q.rn ?_))
    refine S.cr rfl (partitionEqual_spec bk n c a1 b1 p e3 rs L p4 p1 p2 g2 hn) ?_
    rintro _ _ ⟨rfl, rfl⟩
    cases hx : Sort.partitionEqual Sort.ltInt e3 a1 b1 p with
    | mk mid e4 =>
    obtain ⟨r1, r2, r3, r4, r5⟩ := Sort.round_eq Sort.swo_ltInt (Sort.partitionEqual_holds Sort.ltInt) hs.1 p1 p2 (by omega) p6 hs.2 hx
    refine Q.rn ?_; (repeat (intro b1; refine Q.rn ?_))
    refine ⟨(mid, b1, l1, wb, wp, e4), ⟨rfl, rfl, rfl, rfl, rfl, rfl, trivial⟩, Ent.refl _, ⟨by dsimp only; omega, g2, by dsimp only; omega, q1, by dsimp only; omega, r4, fun R h1 h2 => ?_⟩, by dsimp only; omega⟩
    have := r5 R h1 h2
    exact g7 R (Sort.permIn_trans _ _ _ a1 b1 p5 this.1) this.2
  | false =>
    clear hs
    refine Q.rn ?_; (repeat (intro b1; refine Q.rn ?_))
    refine S.cr rfl (partition_spec bk n c a1 b1 p e3 rs L p4 p1 p2 g2 hn) ?_
    rintro _ _ ⟨rfl, rfl⟩
    rcases hx : Sort.partition Sort.ltInt e3 a1 b1 p with ⟨mid, ap, e4⟩
    obtain ⟨r1, r2, r3, r4, r5, r6, r7⟩ := Sort.round_part Sort.swo_ltInt (Sort.partition_holds Sort.ltInt) p1 p2 (by omega) p6 hx
    refine Q.rn ?_; (repeat (intro b1; refine Q.rn ?_))
    by_cases hlt : mid - a1 < b1 - mid
    · refine Q.rn ?_; (repeat (intro b1; refine Q.rn ?_))
      refine S.cr rfl (ih (mid - a1) (by omega) a1 mid l1 e4 rfl (by omega) r1 (by omega) q1 r4) ?_
      rintro _ _ ⟨rfl, e5, rfl, u1, u2⟩
      obtain ⟨w1, w2⟩ := r6 e5 u1 u2
      refine Q.rn ?_; (repeat (intro b1; refine Q.rn ?_))
      refine ⟨(mid + 1, b1, l1, _, ap, e5), ⟨rfl, rfl, rfl, rfl, rfl, rfl, trivial⟩, Ent.refl _, ⟨by dsimp only; omega, g2, by dsimp only; omega, q1, by dsimp only; rw [u1.1]; omega, w1, fun R h1 h2 => ?_⟩, by dsimp only; omega⟩
      have := w2 R h1 h2
      exact g7 R (Sort.permIn_trans _ _ _ a1 b1 p5 this.1) this.2
    · refine Q.rn ?_; (repeat (intro b1; refine Q.rn ?_))
      refine S.cr rfl (ih (b1 - (mid + 1)) (by omega) (mid + 1) b1 l1 e4 rfl (by omega) (by omega) g2 q1 r5) ?_
      rintro _ _ ⟨rfl, e5, rfl, u1, u2⟩
      obtain ⟨w1, w2⟩ := r7 e5 u1 u2
      refine Q.rn ?_; (repeat (intro b1; refine Q.rn ?_))
      refine ⟨(a1, mid, l1, _, ap, e5), ⟨rfl, rfl, rfl, rfl, rfl, rfl, trivial⟩, Ent.refl _, ⟨r1, by dsimp only; omega, by dsimp only; omega, q1, by dsimp only; rw [u1.1]; omega, w1, fun R h1 h2 => ?_⟩, by dsimp only; omega⟩
      have := w2 R h1 h2
      exact g7 R (Sort.permIn_trans _ _ _ a1 b1 p5 this.1) this.2
end Go.Proofs.YtiampehfpgcogaaDoor
namespace Go.Proofs.YtiampehfpgcogaaDoor
open Go Go.SX
attribute [local irreducible] swp opsS thenS blockS retS CallsS St Ent YieldS anyS drawS
def sortL (xs : List Int) : List Int := xs.mergeSort fun x y => decide (x ≤ y)
theorem sortL_perm (xs : List Int) : (sortL xs).Perm xs := List.mergeSort_perm _ _
theorem sortL_len (xs : List Int) : (sortL xs).length = xs.length := (sortL_perm xs).length_eq
theorem sortL_sorted (xs : List Int) : (sortL xs).Pairwise (· ≤ ·) := by
  have := List.pairwise_mergeSort (le := fun x y : Int => decide (x ≤ y)) (fun a b c h1 h2 => by simp at *; omega) (fun a b => by simp; omega) xs
  exact this.imp fun h => by simpa using h
theorem sorted_uniq : ∀ {l1 l2 : List Int}, l1.Perm l2 → l1.Pairwise (· ≤ ·) → l2.Pairwise (· ≤ ·) → l1 = l2
  | [], l2, h, _, _ => by simpa using h
  | x :: l1, [], h, _, _ => by simp at h
  | x :: l1, y :: l2, h, h1, h2 => by
    have hx : x ∈ y :: l2 := h.subset (by simp)
    have hy : y ∈ x :: l1 := h.symm.subset (by simp)
    have e : x = y := by
      rcases List.mem_cons.1 hx with e | hx
      · exact e
      · rcases List.mem_cons.1 hy with e | hy
        · exact e.symm
        · have a := (List.pairwise_cons.1 h2).1 x hx
          have b := (List.pairwise_cons.1 h1).1 y hy
          omega
    subst e
    rw [sorted_uniq ((List.perm_cons x).1 h) (List.pairwise_cons.1 h1).2 (List.pairwise_cons.1 h2).2]
theorem sortL_eq {xs ys : List Int} (h : xs.Perm ys) : sortL xs = sortL ys := sorted_uniq ((sortL_perm xs).trans (h.trans (sortL_perm ys).symm)) (sortL_sorted _) (sortL_sorted _)
theorem insertionSort_zero (sv : Value) (L : List HP) : CallsS Tryd.prog 86 [sv, .int .i64 (0 : Nat), .int .i64 (0 : Nat)] L (fun v L' => v = .tuple #[] ∧ L' = L) := by
  refine CallsS.of_body Tryd.func86 rfl rfl rfl ?_
  refine Q.rn ?_; (repeat (intro b1; refine Q.rn ?_))
  refine swp_loop (σ := Unit) (fun s => [(2, .int .i64 (0 : Nat)), (6, .int .i64 (1 : Nat))]) (fun s => L) (fun s => True) (fun s => 0) () ⟨rfl, rfl, trivial⟩ (Ent.refl _) trivial ?_
  intro _ _
  refine Q.rn ?_; (repeat (intro b1; refine Q.rn ?_))
  exact N.n0 RV.nil (Ent.refl _) ⟨rfl, rfl⟩
theorem pdq_zero (sv : Value) (lim : Nat) (L : List HP) : CallsS Tryd.prog 72 [sv, .int .i64 (0 : Nat), .int .i64 (0 : Nat), .int .i64 lim] L (fun v L' => v = .tuple #[] ∧ L' = L) := by
  refine CallsS.of_body Tryd.func72 rfl rfl rfl ?_
  refine Q.rn ?_; (repeat (intro b1; refine Q.rn ?_))
  refine swp_loop (σ := Unit) (fun s => [(0, sv), (1, .int .i64 (0 : Nat)), (2, .int .i64 (0 : Nat))]) (fun s => L) (fun s => True) (fun s => 0) () ⟨rfl, rfl, rfl, trivial⟩ (Ent.refl _) trivial ?_
  intro _ _
  refine Q.rn ?_; (repeat (intro b1; refine Q.rn ?_))
  refine S.cr rfl (insertionSort_zero _ _) ?_
  rintro _ _ ⟨rfl, rfl⟩
  refine Q.rn ?_; (repeat (intro b1; refine Q.rn ?_))
  exact N.r0 RV.nil (Ent.refl _) ⟨rfl, rfl⟩
theorem ar_toList {k : IntKind} {d : Array Int} {rs : List Value} : ar k d rs = d.toList.map (Value.int k) ++ rs := rfl
set_option maxHeartbeats 2000000 in
theorem Sort_spec (a : Option Addr) (m c : Nat) (xs : List Int) (L : List HP) (hm : m = xs.length) (hn : m ≤ 17592186044416) :
    CallsS Tryd.prog 59 [.slice a m c] (slO 30 1 a m c (xs.map U64) :: L) (fun v L' => v = .tuple #[] ∧ L' = slO 30 1 a m c ((sortL xs).map U64) :: L) := by
  have hu : IntKind.u64.wrap (m : Int) = (m : Int) := wrap_u64 (by omega) (by omega)
  have hl : Sort.bitsLen m ≤ 45 := (Sort.bitsLen_le_iff m 45).2 (by omega)
  by_cases h0 : m = 0
  · have hx : xs = [] := List.eq_nil_of_length_eq_zero (by omega)
    subst hx
    have hs : sortL [] = [] := by simp [sortL]
    rw [hs]
    refine CallsS.of_body Tryd.func59 rfl rfl rfl ?_
    refine Q.rn ?_; (repeat (intro b1; refine Q.rn ?_))
    refine S.y (Y.cvi rfl) ?_
    rw [hu]
    refine Q.rn ?_; (repeat (intro b1; refine Q.rn ?_))
    refine S.cr rfl (Len_spec m (by omega) _) ?_
    rintro _ _ ⟨rfl, rfl⟩
    subst h0
    refine S.cr rfl (pdq_zero _ (Sort.bitsLen 0) _) ?_
    rintro _ _ ⟨rfl, rfl⟩
    refine Q.rn ?_; (repeat (intro b1; refine Q.rn ?_))
    exact N.n0 RV.nil (Ent.refl _) ⟨rfl, rfl⟩
  refine CallsS.slO (by omega) fun b rest ha hmc hlen => ?_
  subst ha
  refine CallsS.of_body Tryd.func59 rfl rfl rfl ?_
  refine Q.rn ?_; (repeat (intro b1; refine Q.rn ?_))
  refine S.y (Y.cvi rfl) ?_
  rw [hu]
  refine Q.rn ?_; (repeat (intro b1; refine Q.rn ?_))
  refine S.cr rfl (Len_spec m (by omega) _) ?_
  rintro _ _ ⟨rfl, rfl⟩
  have hd : xs.toArray.size = m := by simp [hm]
  refine S.cr rfl (pdq_spec b m c rest _ hn m 0 m (Sort.bitsLen m) xs.toArray (by omega) hd (by omega) (Nat.le_refl _) (by omega) (.inl rfl)) ?_
  rintro _ _ ⟨rfl, e, rfl, h1, h2⟩
  have he : e.toList = sortL xs := by
    have := Sort.sorted_unique_holds (lt := Sort.ltInt) Sort.swo_ltInt (fun x y h1 h2 => by simp [Sort.ltInt] at h1 h2; omega) xs.toArray e (by rw [hd]; exact h1) (by rw [hd]; exact h2)
    rw [this]
    unfold sortL
    congr 1
    funext x y
    simp [Sort.ltInt]
    by_cases h : x ≤ y <;> simp [h] <;> omega
  refine Q.rn ?_; (repeat (intro b1; refine Q.rn ?_))
  refine N.n0 RV.nil ?_ ⟨rfl, rfl⟩
  have hen : (ar .u64 e rest) = (sortL xs).map U64 ++ rest := by rw [ar_toList, he]
  unfold AR
  rw [hen]
  exact slO_shut (by simp [sortL_len, hm]) hmc (by simpa [sortL_len] using hlen)
theorem Sorted_spec (gf : FuncId) (lb : List Value) [he : Enters Tryd.prog gf] (ks : List Int) (A A' : List HP) (hk : ks.length ≤ 17592186044416) (hseq : SeqS Tryd.prog gf lb U64 ks.length (fun xs => xs.Perm ks) A A') :
    CallsS Tryd.prog 45 [.func (.func gf) #[] lb.toArray] A (fun v L' => ∃ a c, v = .slice a ks.length c ∧ L' = slO 30 1 a ks.length c ((sortL ks).map U64) :: A') := by
  refine CallsS.of_body Tryd.func45 rfl rfl rfl ?_
  refine Q.r ?_; (repeat (intro b1; refine Q.r ?_))
  refine S.cr rfl (Collect_spec gf lb _ A A' (hseq.mono hk)) ?_
  rintro _ _ ⟨xs, a, c, hp, rfl, rfl⟩
  have hl := hp.length_eq
  refine Q.r ?_; (repeat (intro b1; refine Q.r ?_))
  refine S.cr rfl (Sort_spec a xs.length c xs A' rfl (by omega)) ?_
  rintro _ _ ⟨rfl, rfl⟩
  rw [sortL_eq hp, hl]
  refine Q.r ?_; (repeat (intro b1; refine Q.r ?_))
  exact N.r1 (RV.tmp rfl RV.nil) (Ent.refl _) ⟨a, c, rfl, rfl⟩
end Go.Proofs.YtiampehfpgcogaaDoor
namespace Go.Proofs.YtiampehfpgcogaaDoor
open Go Go.SX
attribute [local irreducible] swp opsS thenS blockS retS CallsS St Ent YieldS anyS drawS
end Go.Proofs.YtiampehfpgcogaaDoor
namespace Go.Proofs.YtiampehfpgcogaaDoor
open Go Go.SX
attribute [local irreducible] swp opsS thenS blockS retS CallsS St Ent YieldS anyS drawS
end Go.Proofs.YtiampehfpgcogaaDoor
namespace Go.Proofs.YtiampehfpgcogaaDoor
open Go Go.SX
attribute [local irreducible] swp opsS thenS blockS retS CallsS St Ent YieldS anyS drawS
end Go.Proofs.YtiampehfpgcogaaDoor
namespace Go.Proofs.YtiampehfpgcogaaDoor
open Go Go.SX
attribute [local irreducible] swp opsS thenS blockS retS CallsS St Ent YieldS anyS drawS
end Go.Proofs.YtiampehfpgcogaaDoor
namespace Go.Proofs.YtiampehfpgcogaaDoor
open Go Go.SX
attribute [local irreducible] swp opsS thenS blockS retS CallsS St Ent YieldS anyS drawS
structure EV where
  id : Int
  a : Option Addr
  c : Nat
  vs : List OV
abbrev EV.cells (e : EV) : List Value := [.int .u64 e.id, .slice e.a e.vs.length e.c]
abbrev EV.abs (e : EV) : Int × VL := (e.id, e.vs.map OV.abs)
def okE (M : Nat → Option Obj) (e : EV) : Prop := SlM M e.a e.vs.length 2 (e.vs.flatMap OV.cells) ∧ okR M e.vs
theorem okE.mono {M M' : Nat → Option Obj} {e : EV} (h : okE M e) (hl : leM M M') : okE M' e := ⟨h.1.mono hl, fun o ho => (h.2 o ho).mono hl⟩
structure ROK (M : Nat → Option Obj) (st : VS) (a : Option Addr) (c : Nat) (es : List EV) (a' : Option Addr) (c' : Nat) (is : List IV) : Prop where
  ch : (es.map EV.abs).Perm st.ch
  cs : (es.map (·.id)).Pairwise (· < ·)
  its : (is.map IV.abs).Perm st.its
  ss : (is.map (·.txn)).Pairwise (· < ·)
  oe : ∀ e ∈ es, okE M e
  oi : ∀ i ∈ is, okI M i
  sE : SlM M a es.length 2 (es.flatMap EV.cells)
  sI : SlM M a' is.length 3 (is.flatMap IV.cells)
  cE : es.length ≤ c
  cI : is.length ≤ c'
  k1 : keysOK st.ch
  k2 : keysOK st.its
  oc : ∀ i ∈ is, ∀ o ∈ i.ops, o.vec.length ≤ o.c
structure RX where
  a : Option Addr
  c : Nat
  es : List EV
  a' : Option Addr
  c' : Nat
  is : List IV
  M : Nat → Option Obj
section
variable {n : Nat} {ops rest : List Oper} {cd : Code} {Q : Post} {f : Env} {L L0 : List HP} {st : VS}
end
end Go.Proofs.YtiampehfpgcogaaDoor
namespace Go.Proofs.YtiampehfpgcogaaDoor
open Go Go.SX
attribute [local irreducible] swp opsS thenS blockS retS CallsS St Ent YieldS anyS drawS
theorem lkL_iff {κ α : Type} [DecidableEq κ] {m : List (κ × α)} (h : keysOK m) {x : κ} {a : α} : lkL m x = some a ↔ (x, a) ∈ m := by
  refine ⟨lk_memL, fun hm => ?_⟩
  rcases keyCase m h x with ⟨p, b, q, rfl, hp, hq⟩ | hn
  · rw [lkL_mid hp]
    rcases List.mem_append.1 hm with hm | hm
    · exact absurd rfl (hp _ hm)
    rcases List.mem_cons.1 hm with hm | hm
    · cases hm; rfl
    · exact absurd rfl (hq _ hm)
  · exact absurd rfl (hn _ hm)
theorem pw_filter {α : Type} {key : α → Int} {l : List α} (h : (l.map key).Pairwise (· < ·)) (p : α → Bool) : ((l.filter p).map key).Pairwise (· < ·) := by
  rw [List.pairwise_map] at h ⊢
  exact h.filter p
theorem ROK.len {M : Nat → Option Obj} {st : VS} {a a' : Option Addr} {c c' : Nat} {es : List EV} {is : List IV} (h : ROK M st a c es a' c' is) : is.length = st.its.length ∧ es.length = st.ch.length := by
  have h1 := h.its.length_eq
  have h2 := h.ch.length_eq
  simp at h1 h2
  exact ⟨h1, h2⟩
end Go.Proofs.YtiampehfpgcogaaDoor
namespace Go.Proofs.YtiampehfpgcogaaDoor
open Go Go.SX
attribute [local irreducible] swp opsS thenS blockS retS CallsS St Ent YieldS anyS drawS
end Go.Proofs.YtiampehfpgcogaaDoor
namespace Go.SX
open Go
end Go.SX
namespace Go.Proofs.YtiampehfpgcogaaDoor
open Go Go.SX
attribute [local irreducible] swp opsS thenS blockS retS CallsS St Ent YieldS anyS drawS
theorem keys_snoc {κ α : Type} [DecidableEq κ] {m : List (κ × α)} (h : keysOK m) {x : κ} (a : α) (hx : lkL m x = none) : keysOK (m ++ [(x, a)]) := by
  have hn := lk_none' hx
  unfold keysOK
  rw [List.map_append, List.nodup_append]
  refine ⟨h, by simp, fun y hy z hz => ?_⟩
  simp at hz
  subst hz
  obtain ⟨u, hu, rfl⟩ := List.mem_map.1 hy
  exact hn u hu
theorem check_ok {dim : Int} {ops : VL} (h : checkV dim ops = 0) : 1 ≤ dim ∧ dim ≤ 8 ∧ 1 ≤ ops.length ∧ ops.length ≤ 16 ∧ (ops.map (·.1)).Nodup ∧ ∀ o ∈ ops, o.2.length ≤ 8 ∧ (0 < o.2.length → rightV o.2 = true) := by
  unfold checkV at h
  by_cases h1 : dim < 1 ∨ 8 < dim
  · rw [if_pos h1] at h; cases h
  rw [if_neg h1] at h
  by_cases h3 : ops.length = 0
  · rw [if_pos h3] at h; cases h
  rw [if_neg h3] at h
  by_cases h4 : 16 < ops.length
  · rw [if_pos h4] at h; cases h
  rw [if_neg h4] at h
  by_cases h5 : ops.any (badO dim) = true
  · rw [if_pos h5] at h; cases h
  rw [if_neg h5] at h
  by_cases h6 : (ops.map (·.1)).Nodup
  · refine ⟨by omega, by omega, by omega, by omega, h6, fun o ho => ?_⟩
    have hb : badO dim o = false := by
      cases hb : badO dim o with
      | false => rfl
      | true => exact absurd (List.any_eq_true.2 ⟨o, ho, hb⟩) h5
    unfold badO at hb
    simp only [Bool.or_eq_false_iff, Bool.and_eq_false_iff, decide_eq_false_iff_not, Bool.not_eq_false', Decidable.not_not] at hb
    obtain ⟨_, hb⟩ := hb
    rcases hb with hb | hb
    · exact ⟨by omega, fun h => absurd h hb⟩
    · exact ⟨by omega, fun _ => hb.1⟩
  · rw [if_neg h6] at h; cases h
section
variable {P : Program} {n : Nat} {ops : List Oper} {f : Env} {A : List HP} {d : Tmp} {ty : TypeId} {pos : String} {af : Array Edge}
end
theorem SlM.at {M : Nat → Option Obj} {a : Option Addr} {m sz : Nat} {cs : List Value} (h : SlM M a m sz cs) : m = 0 ∨ ∃ b o, a = some ⟨b, o, none⟩ := by
  have := h.rd (L := [roM M])
  rcases this.2 with h3 | ⟨b, o, h3, _⟩
  · exact .inl h3
  · exact .inr ⟨b, o, h3⟩
end Go.Proofs.YtiampehfpgcogaaDoor
namespace Go.Proofs.YtiampehfpgcogaaDoor
open Go Go.SX
attribute [local irreducible] swp opsS thenS blockS retS CallsS St Ent YieldS anyS drawS
def insE (es : List EV) (nw : EV) : List EV := es.filter (fun e => decide (e.id < nw.id)) ++ nw :: es.filter (fun e => decide (nw.id < e.id))
end Go.Proofs.YtiampehfpgcogaaDoor
namespace Go.Proofs.YtiampehfpgcogaaDoor
open Go Go.SX
attribute [local irreducible] swp opsS thenS blockS retS CallsS St Ent YieldS anyS drawS
theorem keys_nodup {κ α : Type} [DecidableEq κ] {m : List (κ × α)} (h : keysOK m) : m.Nodup := by
  unfold keysOK at h
  rw [List.nodup_iff_pairwise_ne, List.pairwise_map] at h
  rw [List.nodup_iff_pairwise_ne]
  exact h.imp fun h1 h2 => h1 (by rw [h2])
theorem keys_of_lt {m : List (Int × VL)} (h : (m.map (·.1)).Pairwise (· < ·)) : keysOK m := by
  unfold keysOK
  rw [List.nodup_iff_pairwise_ne]
  exact h.imp fun h1 h2 => by omega
theorem insE_sorted {es : List EV} {nw : EV} (hs : (es.map (·.id)).Pairwise (· < ·)) : ((insE es nw).map (·.id)).Pairwise (· < ·) := by
  unfold insE
  rw [List.map_append, List.map_cons, List.pairwise_append]
  refine ⟨pw_filter hs _, List.pairwise_cons.2 ⟨fun y hy => ?_, pw_filter hs _⟩, fun x hx y hy => ?_⟩
  · obtain ⟨u, hu, rfl⟩ := List.mem_map.1 hy
    have h1 := (List.mem_filter.1 hu).2
    simpa using h1
  · obtain ⟨u, hu, rfl⟩ := List.mem_map.1 hx
    have h1 := (List.mem_filter.1 hu).2
    simp at h1
    rcases List.mem_cons.1 hy with rfl | hy
    · exact h1
    · obtain ⟨w, hw, rfl⟩ := List.mem_map.1 hy
      have h3 := (List.mem_filter.1 hw).2
      simp at h3; omega
theorem insE_mem {es : List EV} {nw e : EV} (h : e ∈ insE es nw) : e = nw ∨ e ∈ es ∧ e.id ≠ nw.id := by
  unfold insE at h
  rcases List.mem_append.1 h with h | h
  · have h1 := List.mem_filter.1 h
    have h2 := h1.2
    simp at h2
    exact .inr ⟨h1.1, by omega⟩
  rcases List.mem_cons.1 h with h | h
  · exact .inl h
  · have h1 := List.mem_filter.1 h
    have h2 := h1.2
    simp at h2
    exact .inr ⟨h1.1, by omega⟩
theorem insE_mem' {es : List EV} {nw e : EV} (h : e = nw ∨ e ∈ es ∧ e.id ≠ nw.id) : e ∈ insE es nw := by
  unfold insE
  rcases h with rfl | ⟨h1, h2⟩
  · simp
  · by_cases h3 : e.id < nw.id
    · exact List.mem_append_left _ (List.mem_filter.2 ⟨h1, by simpa using h3⟩)
    · refine List.mem_append_right _ (List.mem_cons_of_mem _ (List.mem_filter.2 ⟨h1, ?_⟩))
      simp; omega
theorem map_id_key {es : List EV} : (es.map EV.abs).map (·.1) = es.map (·.id) := by rw [List.map_map]; rfl
theorem insE_perm {es : List EV} {nw : EV} {ch : List (Int × VL)} (hp : (es.map EV.abs).Perm ch) (hk : keysOK ch) (hs : (es.map (·.id)).Pairwise (· < ·)) : ((insE es nw).map EV.abs).Perm (putL ch nw.id (nw.vs.map OV.abs)) := by
  have k1 : keysOK ((insE es nw).map EV.abs) := keys_of_lt (by rw [map_id_key]; exact insE_sorted hs)
  have k2 := putL_ok hk nw.id (nw.vs.map OV.abs)
  rw [List.perm_ext_iff_of_nodup (keys_nodup k1) (keys_nodup k2)]
  rintro ⟨x, w⟩
  rw [← lkL_iff k2, lkL_put hk]
  constructor
  · intro h
    obtain ⟨e, he, h2⟩ := List.mem_map.1 h
    clear h
    rcases insE_mem he with rfl | ⟨he1, he2⟩
    · have hx : x = e.id := (congrArg Prod.fst h2).symm
      have hx2 : w = e.vs.map OV.abs := (congrArg Prod.snd h2).symm
      rw [if_pos hx, hx2]
    · have hm : (x, w) ∈ ch := hp.mem_iff.1 (by rw [← h2]; exact List.mem_map_of_mem he1)
      have hx : x = e.id := (congrArg Prod.fst h2).symm
      rw [if_neg (by rw [hx]; exact he2)]
      exact (lkL_iff hk).2 hm
  · intro h
    by_cases hx : x = nw.id
    · rw [if_pos hx] at h
      cases h
      rw [hx]
      exact List.mem_map_of_mem (f := EV.abs) (insE_mem' (.inl rfl))
    · rw [if_neg hx] at h
      obtain ⟨e, he, h2⟩ := List.mem_map.1 (hp.mem_iff.2 ((lkL_iff hk).1 h))
      rw [← h2]
      refine List.mem_map_of_mem (f := EV.abs) (insE_mem' (.inr ⟨he, ?_⟩))
      have : x = e.id := (congrArg Prod.fst h2).symm
      rw [← this]; exact hx
theorem ROK.put {M : Nat → Option Obj} {st : VS} {a a' : Option Addr} {c c' : Nat} {es : List EV} {is : List IV} (h : ROK M st a c es a' c' is) {M2 : Nat → Option Obj} (hl : leM M M2) {a2 : Option Addr} {c2 : Nat} {nw : EV} (hnw : okE M2 nw)
    (hs : SlM M2 a2 (insE es nw).length 2 ((insE es nw).flatMap EV.cells)) (hc : (insE es nw).length ≤ c2) : ROK M2 { st with ch := putL st.ch nw.id (nw.vs.map OV.abs) } a2 c2 (insE es nw) a' c' is :=
  ⟨insE_perm h.ch h.k1 h.cs, insE_sorted h.cs, h.its, h.ss, fun e he => by
    rcases insE_mem he with rfl | ⟨he, _⟩
    · exact hnw
    · exact (h.oe e he).mono hl, fun i hi => (h.oi i hi).mono hl, hs, h.sI.mono hl, hc, h.cI, putL_ok h.k1 _ _, h.k2, h.oc⟩
theorem sorted_last {vs : VL} (h : sortedV vs) : ∀ v ∈ vs, v.1 ≤ lastS vs := by
  intro v hv
  unfold lastS
  cases hg : vs.getLast? with
  | none => rw [List.getLast?_eq_none_iff] at hg; subst hg; cases hv
  | some l =>
    rw [List.getLast?_eq_some_iff] at hg
    obtain ⟨p, rfl⟩ := hg
    unfold sortedV at h
    rw [List.map_append, List.pairwise_append] at h
    rcases List.mem_append.1 hv with hv | hv
    · have := h.2.2 v.1 (List.mem_map_of_mem hv) l.1 (by simp)
      simp; omega
    · obtain rfl := List.mem_singleton.1 hv
      simp
end Go.Proofs.YtiampehfpgcogaaDoor
namespace Go.Proofs.YtiampehfpgcogaaDoor
open Go Go.SX
attribute [local irreducible] swp opsS thenS blockS retS CallsS St Ent YieldS anyS drawS
end Go.Proofs.YtiampehfpgcogaaDoor
namespace Go.Proofs.YtiampehfpgcogaaDoor
open Go Go.SX
attribute [local irreducible] swp opsS thenS blockS retS CallsS St Ent YieldS anyS drawS
def cutN (vs : VL) (s : Int) : Nat := if aftN vs s = 0 then 0 else if 0 < (((vs[aftN vs s - 1]?).map (·.2)).getD []).length then aftN vs s - 1 else aftN vs s
end Go.Proofs.YtiampehfpgcogaaDoor
namespace Go.Proofs.YtiampehfpgcogaaDoor
open Go Go.SX
attribute [local irreducible] swp opsS thenS blockS retS CallsS St Ent YieldS anyS drawS
abbrev GL := List (Int × Int)
def sw1 (s : Int) (u : List (Int × VL) × GL) (id : Int) : List (Int × VL) × GL :=
  (if ((chV u.1 id).drop (cutN (chV u.1 id) s)).length = 0 then delL u.1 id else putL u.1 id ((chV u.1 id).drop (cutN (chV u.1 id) s)), u.2 ++ ((chV u.1 id).take (cutN (chV u.1 id) s)).map fun v => (id, v.1))
def swF (s : Int) (ks : List Int) (ch : List (Int × VL)) : List (Int × VL) × GL := ks.foldl (sw1 s) (ch, [])
def swIds (ch : List (Int × VL)) : List Int := sortL (ch.map (·.1))
def sweepS (st : VS) (s : Int) : VS := if min s 1099511627776 ≤ st.mark then st else { st with mark := min s 1099511627776, ch := (swF (min s 1099511627776) (swIds st.ch) st.ch).1 }
theorem lkL_del {κ α : Type} [DecidableEq κ] {m : List (κ × α)} (x y : κ) (h : y ≠ x) : lkL (delL m x) y = lkL m y := by
  unfold lkL delL
  rw [List.find?_filter]
  congr 2
  funext u
  by_cases hu : u.1 = y
  · have : u.1 ≠ x := fun e => h (by rw [← hu, e])
    simp [hu, h]
  · simp [hu]
end Go.Proofs.YtiampehfpgcogaaDoor
namespace Go.Proofs.YtiampehfpgcogaaDoor
open Go Go.SX
attribute [local irreducible] swp opsS thenS blockS retS CallsS St Ent YieldS anyS drawS
end Go.Proofs.YtiampehfpgcogaaDoor
namespace Go.Proofs.YtiampehfpgcogaaDoor
open Go Go.SX
attribute [local irreducible] swp opsS thenS blockS retS CallsS St Ent YieldS anyS drawS
theorem ROK.ids {M : Nat → Option Obj} {st : VS} {a a' : Option Addr} {c c' : Nat} {es : List EV} {is : List IV} (h : ROK M st a c es a' c' is) : swIds st.ch = es.map (·.id) := by
  refine sorted_uniq ((sortL_perm _).trans ?_) (sortL_sorted _) (h.cs.imp fun h => by omega)
  have := (h.ch.map (·.1)).symm
  rw [map_id_key] at this
  exact this
end Go.Proofs.YtiampehfpgcogaaDoor
namespace Go.Proofs.YtiampehfpgcogaaDoor
open Go Go.SX
attribute [local irreducible] swp opsS thenS blockS retS CallsS St Ent YieldS anyS drawS
structure DV where
  d : Int
  txn : Int
  after : Int
  a : Option Addr
  c : Nat
  ops : List OV
  stamp : Int
  ask : Int
  id : Int
  ia : Option Addr
  ic : Nat
  ids : List Int
abbrev DV.cells (o : DV) : List Value := [.int .u8 o.d, .int .u64 o.txn, .int .u64 o.after, .slice o.a o.ops.length o.c, .int .u64 o.stamp, .int .u64 o.ask, .int .u64 o.id, .slice o.ia o.ids.length o.ic]
abbrev DV.val (o : DV) : Value := .agg #[.int .u8 o.d, .int .u64 o.txn, .int .u64 o.after, .slice o.a o.ops.length o.c, .int .u64 o.stamp, .int .u64 o.ask, .int .u64 o.id, .slice o.ia o.ids.length o.ic]
end Go.Proofs.YtiampehfpgcogaaDoor
namespace Go.Proofs.YtiampehfpgcogaaDoor
open Go Go.SX
attribute [local irreducible] swp opsS thenS blockS retS CallsS St Ent YieldS anyS drawS
structure WFK (st : VS) (n : Nat) : Prop where
  wf : WF st n
  k1 : keysOK st.ch
  k2 : keysOK st.its
theorem WF.mono {st : VS} {n m : Nat} (h : WF st n) (hm : n ≤ m) : WF st m :=
  ⟨h.d1, h.d2, by have := h.il; omega, h.io, by have := h.cl; omega, fun c hc => ⟨(h.co c hc).1, by have := (h.co c hc).2.1; omega, (h.co c hc).2.2⟩⟩
theorem WFK.mono {st : VS} {n m : Nat} (h : WFK st n) (hm : n ≤ m) : WFK st m := ⟨h.wf.mono hm, h.k1, h.k2⟩
theorem WFK.free {st : VS} {n : Nat} (h : WFK st n) (t : Int) : WFK { st with its := delL st.its t } n :=
  ⟨⟨h.wf.d1, h.wf.d2, by have := h.wf.il; have e := List.length_filter_le (fun u : Int × Int × VL => !decide (u.1 = t)) st.its; exact Nat.le_trans e this, fun i hi => h.wf.io i (List.mem_filter.1 hi).1, h.wf.cl, h.wf.co⟩, h.k1, delL_ok h.k2 t⟩
theorem applyC_mem {s : Int} {c : Int × VL} : ∀ {ops : VL} {ch : List (Int × VL)}, keysOK ch → (ops.map (·.1)).Nodup → c ∈ applyC s ch ops → c ∈ ch ∨ ∃ o ∈ ops, c = (o.1, chV ch o.1 ++ [(s, o.2)])
  | [], _, _, _, h => .inl h
  | o :: ops, ch, hk, hn, h => by
    simp only [List.map_cons, List.nodup_cons] at hn
    have hput : ∀ c ∈ putC s ch o, c ∈ ch ∨ c = (o.1, chV ch o.1 ++ [(s, o.2)]) := fun c hc => by
      unfold putC at hc
      rcases keyCase ch hk o.1 with ⟨p, b, q, rfl, hp, hq⟩ | hno
      · rw [putL_mid hp hq] at hc
        rcases List.mem_append.1 hc with hc | hc
        · exact .inl (List.mem_append_left _ hc)
        rcases List.mem_cons.1 hc with hc | hc
        · exact .inr hc
        · exact .inl (List.mem_append_right _ (List.mem_cons_of_mem _ hc))
      · rw [putL_none hno] at hc
        rcases List.mem_append.1 hc with hc | hc
        · exact .inl hc
        · exact .inr (List.mem_singleton.1 hc)
    rcases applyC_mem (s := s) (ops := ops) (putL_ok' hk s o) hn.2 h with h | ⟨o', ho', h⟩
    · rcases hput c h with h | h
      · exact .inl h
      · exact .inr ⟨o, by simp, h⟩
    · refine .inr ⟨o', List.mem_cons_of_mem _ ho', ?_⟩
      have hne : o'.1 ≠ o.1 := fun e => hn.1 (by rw [← e]; exact List.mem_map_of_mem ho')
      have : chV (putC s ch o) o'.1 = chV ch o'.1 := by
        unfold chV putC
        rw [lkL_put hk, if_neg hne]
      rw [h, this]
theorem WFK.apply {st : VS} {n : Nat} (h : WFK st n) (t s : Int) : WFK (applyS st t s) (n + 1) := by
  unfold applyS
  cases hl : lkL st.its t with
  | none => exact h.mono (by omega)
  | some i =>
    dsimp only
    by_cases hE : applyE st t s = 0
    · rw [if_pos hE]
      have hio := h.wf.io _ (lk_memL hl)
      dsimp only at hio
      have hany : ∀ o ∈ i.2, ¬ s ≤ lastS (chV st.ch o.1) := by
        unfold applyE at hE
        rw [hl] at hE
        dsimp only at hE
        by_cases h1 : s = 0 ∨ 1099511627776 < s ∨ s ≤ i.1
        · rw [if_pos h1] at hE; cases hE
        rw [if_neg h1] at hE
        by_cases h2 : (i.2.any fun o => decide (s ≤ lastS (chV st.ch o.1))) = true
        · rw [if_pos h2] at hE; cases hE
        · intro o ho hh
          exact h2 (List.any_eq_true.2 ⟨o, ho, decide_eq_true hh⟩)
      refine ⟨⟨h.wf.d1, h.wf.d2, ?_, fun j hj => h.wf.io j (List.mem_filter.1 hj).1, ?_, fun c hc => ?_⟩, applyC_ok h.k1, delL_ok h.k2 t⟩
      · have e := List.length_filter_le (fun u : Int × Int × VL => !decide (u.1 = t)) st.its
        have := h.wf.il
        have e2 : (delL st.its t).length ≤ st.its.length := e
        dsimp only; omega
      · have e := applyC_len (s := s) (ops := i.2) h.k1
        have := h.wf.cl
        dsimp only; omega
      · rcases applyC_mem h.k1 hio.2.1 hc with hc | ⟨o, ho, rfl⟩
        · have := h.wf.co c hc
          exact ⟨this.1, by omega, this.2.2⟩
        · have hcv : sortedV (chV st.ch o.1) ∧ (chV st.ch o.1).length ≤ n ∧ ∀ v ∈ chV st.ch o.1, v.2.length ≤ 8 := by
            unfold chV
            cases hz : lkL st.ch o.1 with
            | none => exact ⟨List.Pairwise.nil, Nat.zero_le _, by simp⟩
            | some w => exact h.wf.co _ (lk_memL hz)
          have hla := sorted_last hcv.1
          have hs := hany o ho
          refine ⟨?_, by simp; omega, fun v hv => ?_⟩
          · unfold sortedV at hcv ⊢
            rw [List.map_append, List.pairwise_append]
            refine ⟨hcv.1, by simp, fun x hx y hy => ?_⟩
            obtain ⟨w, hw, rfl⟩ := List.mem_map.1 hx
            simp at hy
            subst hy
            have := hla w hw
            omega
          · rcases List.mem_append.1 hv with hv | hv
            · exact hcv.2.2 v hv
            · obtain rfl := List.mem_singleton.1 hv
              exact (hio.2.2 o ho).1
    · rw [if_neg hE]; exact h.mono (by omega)
theorem WFK.lock {st : VS} {n : Nat} (h : WFK st n) (t a : Int) (ops : VL) : WFK (lockS st t a ops) (n + 1) := by
  unfold lockS
  by_cases hE : lockE st t a ops = 0
  · rw [if_pos hE]
    unfold lockE at hE
    by_cases h1 : 1099511627776 < a
    · rw [if_pos h1] at hE; cases hE
    rw [if_neg h1] at hE
    by_cases h2 : checkV st.dim ops ≠ 0
    · rw [if_pos h2] at hE; exact absurd hE h2
    rw [if_neg h2] at hE
    have h2' : checkV st.dim ops = 0 := Decidable.not_not.1 h2
    by_cases h3 : (lkL st.its t).isSome = true
    · rw [if_pos h3] at hE; cases hE
    obtain ⟨_, _, c1, c2, c3, c4⟩ := check_ok h2'
    have hno : lkL st.its t = none := by
      cases hz : lkL st.its t with
      | none => rfl
      | some w => rw [hz] at h3; exact absurd rfl h3
    refine ⟨⟨h.wf.d1, h.wf.d2, ?_, fun i hi => ?_, by have := h.wf.cl; dsimp only; omega, fun c hc => ?_⟩, h.k1, keys_snoc h.k2 _ hno⟩
    · have := h.wf.il
      simp; omega
    · rcases List.mem_append.1 hi with hi | hi
      · exact h.wf.io i hi
      · obtain rfl := List.mem_singleton.1 hi
        exact ⟨c2, c3, c4⟩
    · have := h.wf.co c hc
      exact ⟨this.1, by omega, this.2.2⟩
  · rw [if_neg hE]; exact h.mono (by omega)
end Go.Proofs.YtiampehfpgcogaaDoor
