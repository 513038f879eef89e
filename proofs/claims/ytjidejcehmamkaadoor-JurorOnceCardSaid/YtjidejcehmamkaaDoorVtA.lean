/- The vault: what it is; holds, Check, copyOf. No condition. -/
import Derived.Test.YtjidejcehmamkaaDoorChC
set_option linter.unusedVariables false
set_option linter.unusedSimpArgs false
namespace Go.Proofs.YtjidejcehmamkaaDoor
open Go Go.SX
attribute [local irreducible] swp opsS thenS blockS retS CallsS St Ent YieldS anyS drawS
structure IV where
  txn : Int
  after : Int
  a : Option Addr
  c : Nat
  ops : List OV
abbrev IV.cells (i : IV) : List Value := [.int .u64 i.txn, .int .u64 i.after, .slice i.a i.ops.length i.c]
abbrev IV.val (i : IV) : Value := .agg #[.int .u64 i.txn, .int .u64 i.after, .slice i.a i.ops.length i.c]
abbrev IV.abs (i : IV) : Int × Int × VL := (i.txn, i.after, i.ops.map OV.abs)
def RdO (A : List HP) (a : Option Addr) (ops : List OV) : Prop := RdS A a ops.length 2 (ops.flatMap OV.cells) ∧ ∀ o ∈ ops, RdS A o.a o.vec.length 1 (o.vec.map I32)
theorem RdO.sub {A L : List HP} {a : Option Addr} {ops : List OV} (h : RdO A a ops) [s : Sub A L] : RdO L a ops := ⟨h.1.sub, fun o ho => (h.2 o ho).sub⟩
def okI (M : Nat → Option Obj) (i : IV) : Prop := SlM M i.a i.ops.length 2 (i.ops.flatMap OV.cells) ∧ okR M i.ops
theorem okI.rd {M : Nat → Option Obj} {i : IV} (h : okI M i) {L : List HP} [HasM M L] : RdO L i.a i.ops := ⟨h.1.rd, fun o ho => (h.2 o ho).rd⟩
theorem okI.mono {M M' : Nat → Option Obj} {i : IV} (h : okI M i) (hl : leM M M') : okI M' i := ⟨h.1.mono hl, fun o ho => (h.2 o ho).mono hl⟩
def holdsV (ops : VL) (id : Int) : Bool := ops.any fun o => decide (o.1 = id)
theorem holds_abs (ops : List OV) (id : Int) : holdsV (ops.map OV.abs) id = ops.any fun o => decide (o.id = id) := by simp [holdsV, List.any_map]; rfl
instance : Enters Tryd.prog 65 := en65
instance : Enters Tryd.prog 52 := en52
theorem holds1_spec (b : Nat) (id : Int) (o : OV) (A : List HP) : CallsS Tryd.prog 65 ([] ++ [o.val] ++ [.pointer (some ⟨b, 0, none⟩)]) (pt b (cl [.int .u64 id] 30) :: A) (fun v L' => v = .bool (decide (o.id = id)) ∧ L' = pt b (cl [.int .u64 id] 30) :: A) := by
  refine CallsS.of_body Tryd.func65 rfl rfl rfl ?_
  refine Q.r ?_; (repeat (intro b1; refine Q.r ?_))
  exact N.r1 (RV.tmp rfl RV.nil) (Ent.drop (Ent.refl _)) ⟨rfl, rfl⟩
theorem holds_spec (i : IV) (id : Int) (A : List HP) (h : RdO A i.a i.ops) (hn : i.ops.length ≤ 1000000) :
    CallsS Tryd.prog 52 [i.val, .int .u64 id] A (fun v L' => v = .bool (holdsV (i.ops.map OV.abs) id) ∧ L' = A) := by
  refine CallsS.of_body Tryd.func52 rfl rfl rfl ?_
  refine Q.r ?_; (repeat (intro b1; refine Q.r ?_))
  refine S.y (Y.mf rfl rfl) ?_
  refine S.cr rfl (HasO_spec 65 [] [.pointer (some ⟨b1, 0, none⟩)] (fun o => decide (o.id = id)) i.a i.c i.ops _ h.1.sub (by omega) (fun o ho => holds1_spec b1 id o _)) ?_
  rintro _ _ ⟨rfl, rfl⟩
  refine Q.r ?_; (repeat (intro b1; refine Q.r ?_))
  exact N.r1 (RV.tmp rfl RV.nil) (Ent.drop (Ent.drop (Ent.refl _))) ⟨by rw [holds_abs], rfl⟩
def badO (dim : Int) (o : Int × List Int) : Bool := decide (1099511627776 < o.1) || (decide (0 < o.2.length) && (!rightV o.2 || decide ((o.2.length : Int) ≠ dim)))
def checkV (dim : Int) (ops : VL) : Int :=
  if dim < 1 ∨ 8 < dim then 1 else if ops.length = 0 then 2 else if 16 < ops.length then 3 else if ops.any (badO dim) then 4 else if (ops.map (·.1)).Nodup then 0 else 7
theorem lkL_put {κ α : Type} [DecidableEq κ] {m : List (κ × α)} (h : keysOK m) (x y : κ) (a : α) : lkL (putL m x a) y = if y = x then some a else lkL m y := by
  rcases keyCase m h x with ⟨p, b, q, rfl, hp, hq⟩ | hn
  · rw [putL_mid hp hq]
    by_cases hxy : y = x
    · subst hxy; rw [if_pos rfl, lkL_mid hp]
    · rw [if_neg hxy]
      unfold lkL
      simp [List.find?_append, List.find?_cons, Ne.symm hxy]
  · rw [putL_none hn]
    by_cases hxy : y = x
    · subst hxy
      rw [if_pos rfl]
      have : m.find? (fun u => decide (u.1 = y)) = none := by simp; exact fun a b hh => hn (a, b) hh
      simp [lkL, List.find?_append, this]
    · rw [if_neg hxy]
      unfold lkL
      simp [List.find?_append, List.find?_cons, Ne.symm hxy]
set_option maxHeartbeats 2000000 in
theorem Check_spec (dim : Int) (a : Option Addr) (c : Nat) (ops : List OV) (A : List HP) (h : RdO A a ops) (hn : ops.length ≤ 1000000) (hv : ∀ o ∈ ops, o.vec.length ≤ 1000000) (hd : -9223372036854775808 ≤ dim ∧ dim ≤ 9223372036854775807) :
    CallsS Tryd.prog 27 [.int .i64 dim, .slice a ops.length c] A (fun v L' => v = .int .i64 (checkV dim (ops.map OV.abs)) ∧ L' = A) := by
  unfold checkV
  rw [List.length_map]
  refine CallsS.of_body Tryd.func27 rfl rfl rfl ?_
  by_cases h1 : dim < 1 ∨ 8 < dim
  · rw [if_pos h1]
    by_cases h1a : dim < 1
    · refine Q.r ?_; (repeat (intro b1; refine Q.r ?_))
      exact N.r1 (RV.tmp rfl RV.nil) (Ent.refl _) ⟨rfl, rfl⟩
    · refine Q.r ?_; (repeat (intro b1; refine Q.r ?_))
      exact N.r1 (RV.tmp rfl RV.nil) (Ent.refl _) ⟨rfl, rfl⟩
  rw [if_neg h1]
  by_cases h2 : ops.length = 0
  · rw [if_pos h2]
    refine Q.r ?_; (repeat (intro b1; refine Q.r ?_))
    exact N.r1 (RV.tmp rfl RV.nil) (Ent.refl _) ⟨rfl, rfl⟩
  rw [if_neg h2]
  by_cases h3 : 16 < ops.length
  · rw [if_pos h3]
    refine Q.r ?_; (repeat (intro b1; refine Q.r ?_))
    exact N.r1 (RV.tmp rfl RV.nil) (Ent.refl _) ⟨rfl, rfl⟩
  rw [if_neg h3]
  refine Q.r ?_; (repeat (intro b1; refine Q.r ?_))
  refine S.mkm U64 Value.bool (fun b => ?_)
  refine Q.r ?_; (repeat (intro b1; refine Q.r ?_))
  refine swp_loop (σ := Nat × Bool × List (Int × Bool)) (fun s => [(0, .int .i64 dim), (5, .map (some b)), (25, .slice a ops.length c), (26, .int .i64 ops.length), (6, .bool s.2.1), (27, .int .i64 s.1)])
    (fun s => mpO U64 Value.bool b s.2.2 :: A) (fun s => s.1 ≤ ops.length ∧ keysOK s.2.2 ∧ (∀ y, lkL s.2.2 y = if y ∈ (ops.take s.1).map (·.id) then some true else none) ∧ s.2.1 = !decide (((ops.take s.1).map (·.id)).Nodup) ∧ (ops.take s.1).any (fun o => badO dim o.abs) = false)
    (fun s => ops.length - s.1) (0, false, []) ⟨rfl, rfl, rfl, rfl, rfl, rfl, trivial⟩ (Ent.refl _) ⟨by omega, by simp [keysOK], by intro y; simp [lkL], by simp, by simp⟩ ?_
  rintro ⟨k, tw, m⟩ ⟨k1, k2, k3, k4, k5⟩
  dsimp only at k1 k2 k3 k4 k5 ⊢
  by_cases hlt : k < ops.length
  · obtain ⟨o, ho⟩ := mem_get hlt
    have hmo : o ∈ ops := List.mem_of_getElem? ho
    have hlen := hv o hmo
    obtain ⟨b2, o2, rfl, hr⟩ := RdS.elem (g := OV.cells) (fun _ => rfl) h.1 ho rfl
    have hbad : badO dim o.abs = true → (ops.map OV.abs).any (badO dim) = true := fun hb => List.any_eq_true.2 ⟨o.abs, List.mem_map_of_mem hmo, hb⟩
    have hall : (ops.map OV.abs).any (badO dim) = true ↔ (ops.any fun o => badO dim o.abs) = true := by rw [List.any_map]; rfl
    repeat (first | (refine GQ.y ?_; refine Q.y ?_) | refine Q.go ?_ | (refine GQ.g ?_; refine Q.gq ?_) | (refine GQ.s ?_; refine Q.st ?_) | (refine GQ.a ?_; refine Q.al (fun b1 => ?_)))
    refine Q.ct rfl ?_
    repeat (first | (refine GQ.y ?_; refine Q.y ?_) | refine Q.go ?_ | (refine GQ.g ?_; refine Q.gq ?_) | (refine GQ.s ?_; refine Q.st ?_) | (refine GQ.a ?_; refine Q.al (fun b1 => ?_)))
    refine opsS_cutT (σ := Bool) (fun s => [(0, .int .i64 dim), (5, .map (some b)), (25, .slice (some ⟨b2, o2, none⟩) ops.length c), (26, .int .i64 ops.length), (6, .bool tw), (27, .int .i64 k), (8, .pointer (some ⟨b1, 0, none⟩)), (52, .bool s)])
      (fun s => pt b1 (cl o.cells 73) :: mpO U64 Value.bool b m :: A) (fun s => s = badO dim o.abs) ?_ ?_
    · by_cases c1 : 1099511627776 < o.id
      · refine Q.r ?_; (repeat (intro b1; refine Q.r ?_))
        exact ⟨true, ⟨rfl, rfl, rfl, rfl, rfl, rfl, rfl, rfl, trivial⟩, Ent.refl _, by simp [badO, c1]⟩
      by_cases c2 : 0 < o.vec.length
      · refine Q.r ?_; (repeat (intro b1; refine Q.r ?_))
        refine S.cr rfl (Right_spec o.a o.c o.vec _ ((h.2 o hmo).sub) (by omega)) ?_
        rintro _ _ ⟨rfl, rfl⟩
        cases hrt : rightV o.vec with
        | false =>
          refine Q.r ?_; (repeat (intro b1; refine Q.r ?_))
          exact ⟨true, ⟨rfl, rfl, rfl, rfl, rfl, rfl, rfl, rfl, trivial⟩, Ent.refl _, by simp [badO, c1, c2, hrt]⟩
        | true =>
          refine Q.r ?_; (repeat (intro b1; refine Q.r ?_))
          exact ⟨_, ⟨rfl, rfl, rfl, rfl, rfl, rfl, rfl, rfl, trivial⟩, Ent.refl _, by simp [badO, c1, c2, hrt]⟩
      · refine Q.r ?_; (repeat (intro b1; refine Q.r ?_))
        exact ⟨false, ⟨rfl, rfl, rfl, rfl, rfl, rfl, rfl, rfl, trivial⟩, Ent.refl _, by simp [badO, c1, c2]⟩
    intro s hs
    cases s with
    | true =>
      rw [if_pos (hbad hs.symm)]
      refine Q.r ?_; (repeat (intro b1; refine Q.r ?_))
      exact N.r1 (RV.tmp rfl RV.nil) (Ent.drop (Ent.drop (Ent.refl _))) ⟨rfl, rfl⟩
    | false =>
      have hex : swp Tryd.prog Tryd.f27.ntmps Code.skip (fun _ _ _ => True) e0 [] := swp_skip trivial
      clear hex hbad hall
      have htk : (ops.take (k + 1)).map (·.id) = (ops.take k).map (·.id) ++ [o.id] := by rw [take_snoc ho, List.map_append]; rfl
      have hnd : ((ops.take (k + 1)).map (·.id)).Nodup ↔ ((ops.take k).map (·.id)).Nodup ∧ o.id ∉ (ops.take k).map (·.id) := by
        rw [htk, List.nodup_append]
        constructor
        · rintro ⟨a1, _, a2⟩
          exact ⟨a1, fun hm => a2 _ hm _ (by simp) rfl⟩
        · rintro ⟨a1, a2⟩
          exact ⟨a1, by simp, fun x hx y hy e => by simp at hy; subst hy; exact a2 (e ▸ hx)⟩
      have hm' : ∀ y, lkL (putL m o.id true) y = if y ∈ (ops.take (k + 1)).map (·.id) then some true else none := fun y => by
        rw [lkL_put k2, htk, k3]
        by_cases hy : y = o.id
        · subst hy; simp
        · simp [hy]
      have hb5 : (ops.take (k + 1)).any (fun o => badO dim o.abs) = false := by
        rw [take_snoc ho, List.any_append, k5, List.any_cons, ← hs]; rfl
      cases tw with
      | true =>
        have hd0 : ¬ ((ops.take k).map (·.id)).Nodup := fun hh => by rw [decide_eq_true hh] at k4; cases k4
        repeat (first | (refine GQ.y ?_; refine Q.y ?_) | refine Q.go ?_ | (refine GQ.g ?_; refine Q.gq ?_) | (refine GQ.s ?_; refine Q.st ?_) | (refine GQ.a ?_; refine Q.al (fun b1 => ?_)))
        refine S.mu rfl rfl rfl ?_
        repeat (first | (refine GQ.y ?_; refine Q.y ?_) | refine Q.go ?_ | (refine GQ.g ?_; refine Q.gq ?_) | (refine GQ.s ?_; refine Q.st ?_) | (refine GQ.a ?_; refine Q.al (fun b1 => ?_)))
        exact ⟨(k + 1, true, putL m o.id true), ⟨rfl, rfl, rfl, rfl, rfl, rfl, trivial⟩, Ent.drop (Ent.refl _), ⟨by dsimp only; omega, putL_ok k2 _ _, hm', by rw [decide_eq_false (fun hh => hd0 (hnd.1 hh).1)]; rfl, hb5⟩, by dsimp only; omega⟩
      | false =>
        have hd0 : ((ops.take k).map (·.id)).Nodup := by
          by_cases hh : ((ops.take k).map (·.id)).Nodup
          · exact hh
          · rw [decide_eq_false hh] at k4; cases k4
        repeat (first | (refine GQ.y ?_; refine Q.y ?_) | refine Q.go ?_ | (refine GQ.g ?_; refine Q.gq ?_) | (refine GQ.s ?_; refine Q.st ?_) | (refine GQ.a ?_; refine Q.al (fun b1 => ?_)))
        refine S.y (Y.lk false rfl rfl (fun w => Tryd.zeroValue4 w)) ?_
        rw [k3]
        by_cases hin : o.id ∈ (ops.take k).map (·.id)
        · rw [if_pos hin]
          repeat (first | (refine GQ.y ?_; refine Q.y ?_) | refine Q.go ?_ | (refine GQ.g ?_; refine Q.gq ?_) | (refine GQ.s ?_; refine Q.st ?_) | (refine GQ.a ?_; refine Q.al (fun b1 => ?_)))
          refine S.mu rfl rfl rfl ?_
          repeat (first | (refine GQ.y ?_; refine Q.y ?_) | refine Q.go ?_ | (refine GQ.g ?_; refine Q.gq ?_) | (refine GQ.s ?_; refine Q.st ?_) | (refine GQ.a ?_; refine Q.al (fun b1 => ?_)))
          exact ⟨(k + 1, true, putL m o.id true), ⟨rfl, rfl, rfl, rfl, rfl, rfl, trivial⟩, Ent.drop (Ent.refl _), ⟨by dsimp only; omega, putL_ok k2 _ _, hm', by rw [decide_eq_false (fun hh => (hnd.1 hh).2 hin)]; rfl, hb5⟩, by dsimp only; omega⟩
        · rw [if_neg hin]
          repeat (first | (refine GQ.y ?_; refine Q.y ?_) | refine Q.go ?_ | (refine GQ.g ?_; refine Q.gq ?_) | (refine GQ.s ?_; refine Q.st ?_) | (refine GQ.a ?_; refine Q.al (fun b1 => ?_)))
          refine S.mu rfl rfl rfl ?_
          repeat (first | (refine GQ.y ?_; refine Q.y ?_) | refine Q.go ?_ | (refine GQ.g ?_; refine Q.gq ?_) | (refine GQ.s ?_; refine Q.st ?_) | (refine GQ.a ?_; refine Q.al (fun b1 => ?_)))
          exact ⟨(k + 1, false, putL m o.id true), ⟨rfl, rfl, rfl, rfl, rfl, rfl, trivial⟩, Ent.drop (Ent.refl _), ⟨by dsimp only; omega, putL_ok k2 _ _, hm', by rw [decide_eq_true (hnd.2 ⟨hd0, hin⟩)]; rfl, hb5⟩, by dsimp only; omega⟩
  · have hke : k = ops.length := by omega
    subst hke
    rw [List.take_length] at k4 k5
    rw [if_neg (by rw [List.any_map]; show ¬ (ops.any fun o => badO dim o.abs) = true; rw [k5]; exact Bool.false_ne_true)]
    have hmm : (ops.map OV.abs).map (·.1) = ops.map (·.id) := by rw [List.map_map]; rfl
    rw [hmm]
    by_cases hnd : (ops.map (·.id)).Nodup
    · rw [if_pos hnd]
      simp only [hnd, decide_true, Bool.not_true] at k4
      subst k4
      refine Q.r ?_; (repeat (intro b1; refine Q.r ?_))
      exact N.r1 (RV.tmp rfl RV.nil) (Ent.drop (Ent.refl _)) ⟨rfl, rfl⟩
    · rw [if_neg hnd]
      simp only [hnd, decide_false, Bool.not_false] at k4
      subst k4
      refine Q.r ?_; (repeat (intro b1; refine Q.r ?_))
      exact N.r1 (RV.tmp rfl RV.nil) (Ent.drop (Ent.refl _)) ⟨rfl, rfl⟩
end Go.Proofs.YtjidejcehmamkaaDoor
