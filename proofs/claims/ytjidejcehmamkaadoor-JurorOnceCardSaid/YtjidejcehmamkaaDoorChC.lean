/- Vectors, ops; slices.ContainsFunc at several types. No condition. By a program (wip/gen/vec.py). -/
import Derived.Test.YtjidejcehmamkaaDoorSeq
import Derived.Test.YtjidejcehmamkaaDoorTy
import Derived.Test.YtjidejcehmamkaaDoorSxQ
set_option linter.unusedVariables false
set_option linter.unusedSimpArgs false
namespace Go.Proofs.YtjidejcehmamkaaDoor
open Go Go.SX
attribute [local irreducible] swp opsS thenS blockS retS CallsS St Ent YieldS anyS drawS
abbrev I32 : Int → Value := Value.int .i32

abbrev cI (z : Int) : List Value := [I32 z]
abbrev cU (z : Int) : List Value := [U64 z]
structure OV where
  id : Int
  a : Option Addr
  c : Nat
  vec : List Int
abbrev OV.cells (o : OV) : List Value := [.int .u64 o.id, .slice o.a o.vec.length o.c]
abbrev OV.val (o : OV) : Value := .agg #[.int .u64 o.id, .slice o.a o.vec.length o.c]
abbrev OV.abs (o : OV) : Int × List Int := (o.id, o.vec)
theorem flat_I (xs : List Int) : xs.flatMap cI = xs.map I32 := by induction xs with
  | nil => rfl
  | cons x xs ih => rw [List.flatMap_cons, ih]; rfl
theorem flat_U (xs : List Int) : xs.flatMap cU = xs.map U64 := by induction xs with
  | nil => rfl
  | cons x xs ih => rw [List.flatMap_cons, ih]; rfl
theorem I_one (xs : List Int) : (xs.map I32).all (·.oneCell') = true := by simp [Value.oneCell']
theorem U_one (xs : List Int) : (xs.map U64).all (·.oneCell') = true := by simp [Value.oneCell']
theorem OV_one (xs : List OV) : (xs.flatMap OV.cells).all (·.oneCell') = true := by simp [Value.oneCell']
theorem IdxI_spec (f : FuncId) (fs cs : List Value) [he : Enters Tryd.prog f] (p : Int → Bool) (a : Option Addr) (c : Nat) (xs : List Int) (A : List HP) (h : RdS A a xs.length 1 (xs.flatMap cI)) (hn : xs.length ≤ 4611686018427387904)
    (hf : ∀ x ∈ xs, CallsS Tryd.prog f (fs ++ [I32 x] ++ cs) A (fun v L' => v = .bool (p x) ∧ L' = A)) :
    CallsS Tryd.prog 71 [.slice a xs.length c, .func (.func f) fs.toArray cs.toArray] A (fun v L' => (∃ i : Int, v = .int .i64 i ∧ decide (0 ≤ i) = xs.any p) ∧ L' = A) := by
  refine CallsS.of_body Tryd.func71 rfl rfl rfl ?_
  refine Q.r ?_; (repeat (intro b1; refine Q.r ?_))
  refine swp_loop (σ := Nat) (fun k => [(0, .slice a xs.length c), (1, .func (.func f) fs.toArray cs.toArray), (7, .int .i64 xs.length), (8, .int .i64 k)]) (fun _ => A)
    (fun k => k ≤ xs.length ∧ (xs.take k).any p = false) (fun k => xs.length - k) 0 ⟨rfl, rfl, rfl, rfl, trivial⟩ (Ent.refl _) ⟨by omega, by simp⟩ ?_
  rintro k ⟨hk, hany⟩
  by_cases hlt : k < xs.length
  · obtain ⟨x, hx⟩ := mem_get hlt
    obtain ⟨b, o, rfl, hr⟩ := RdS.elem (g := cI) (fun _ => rfl) h hx rfl
    have hmx : x ∈ xs := List.mem_of_getElem? hx
    refine Q.r ?_; (repeat (intro b1; refine Q.r ?_))
    refine S.crF (fs := fs) (cs := cs) rfl rfl (hf x hmx) ?_
    rintro _ _ ⟨rfl, rfl⟩
    cases hp : p x with
    | true =>
      refine Q.r ?_; (repeat (intro b1; refine Q.r ?_))
      exact N.r1 (RV.tmp rfl RV.nil) (Ent.refl _) ⟨⟨_, rfl, by rw [show xs.any p = true from List.any_eq_true.2 ⟨x, hmx, hp⟩]; simp⟩, rfl⟩
    | false =>
      refine Q.r ?_; (repeat (intro b1; refine Q.r ?_))
      refine ⟨k + 1, ⟨rfl, rfl, rfl, rfl, trivial⟩, Ent.refl _, ⟨by omega, ?_⟩, by omega⟩
      rw [take_snoc hx, List.any_append, hany] <;> simp [hp]
  · have hke : k = xs.length := by omega
    subst hke
    rw [List.take_length] at hany
    refine Q.r ?_; (repeat (intro b1; refine Q.r ?_))
    exact N.r1 (RV.tmp rfl RV.nil) (Ent.refl _) ⟨⟨_, rfl, by rw [hany] <;> rfl⟩, rfl⟩
theorem HasI_spec (f : FuncId) (fs cs : List Value) [he : Enters Tryd.prog f] (p : Int → Bool) (a : Option Addr) (c : Nat) (xs : List Int) (A : List HP) (h : RdS A a xs.length 1 (xs.flatMap cI)) (hn : xs.length ≤ 4611686018427387904)
    (hf : ∀ x ∈ xs, CallsS Tryd.prog f (fs ++ [I32 x] ++ cs) A (fun v L' => v = .bool (p x) ∧ L' = A)) :
    CallsS Tryd.prog 61 [.slice a xs.length c, .func (.func f) fs.toArray cs.toArray] A (fun v L' => v = .bool (xs.any p) ∧ L' = A) := by
  refine CallsS.of_body Tryd.func61 rfl rfl rfl ?_
  refine Q.r ?_; (repeat (intro b1; refine Q.r ?_))
  refine S.cr rfl (IdxI_spec f fs cs p a c xs A h hn hf) ?_
  rintro _ _ ⟨⟨i, rfl, hi⟩, rfl⟩
  refine Q.r ?_; (repeat (intro b1; refine Q.r ?_))
  exact N.r1 (RV.tmp rfl RV.nil) (Ent.refl _) ⟨by rw [← hi], rfl⟩
theorem IdxO_spec (f : FuncId) (fs cs : List Value) [he : Enters Tryd.prog f] (p : OV → Bool) (a : Option Addr) (c : Nat) (xs : List OV) (A : List HP) (h : RdS A a xs.length 2 (xs.flatMap OV.cells)) (hn : xs.length ≤ 4611686018427387904)
    (hf : ∀ x ∈ xs, CallsS Tryd.prog f (fs ++ [OV.val x] ++ cs) A (fun v L' => v = .bool (p x) ∧ L' = A)) :
    CallsS Tryd.prog 59 [.slice a xs.length c, .func (.func f) fs.toArray cs.toArray] A (fun v L' => (∃ i : Int, v = .int .i64 i ∧ decide (0 ≤ i) = xs.any p) ∧ L' = A) := by
  refine CallsS.of_body Tryd.func59 rfl rfl rfl ?_
  refine Q.r ?_; (repeat (intro b1; refine Q.r ?_))
  refine swp_loop (σ := Nat) (fun k => [(0, .slice a xs.length c), (1, .func (.func f) fs.toArray cs.toArray), (7, .int .i64 xs.length), (8, .int .i64 k)]) (fun _ => A)
    (fun k => k ≤ xs.length ∧ (xs.take k).any p = false) (fun k => xs.length - k) 0 ⟨rfl, rfl, rfl, rfl, trivial⟩ (Ent.refl _) ⟨by omega, by simp⟩ ?_
  rintro k ⟨hk, hany⟩
  by_cases hlt : k < xs.length
  · obtain ⟨x, hx⟩ := mem_get hlt
    obtain ⟨b, o, rfl, hr⟩ := RdS.elem (g := OV.cells) (fun _ => rfl) h hx rfl
    have hmx : x ∈ xs := List.mem_of_getElem? hx
    refine Q.r ?_; (repeat (intro b1; refine Q.r ?_))
    refine S.crF (fs := fs) (cs := cs) rfl rfl (hf x hmx) ?_
    rintro _ _ ⟨rfl, rfl⟩
    cases hp : p x with
    | true =>
      refine Q.r ?_; (repeat (intro b1; refine Q.r ?_))
      exact N.r1 (RV.tmp rfl RV.nil) (Ent.refl _) ⟨⟨_, rfl, by rw [show xs.any p = true from List.any_eq_true.2 ⟨x, hmx, hp⟩]; simp⟩, rfl⟩
    | false =>
      refine Q.r ?_; (repeat (intro b1; refine Q.r ?_))
      refine ⟨k + 1, ⟨rfl, rfl, rfl, rfl, trivial⟩, Ent.refl _, ⟨by omega, ?_⟩, by omega⟩
      rw [take_snoc hx, List.any_append, hany] <;> simp [hp]
  · have hke : k = xs.length := by omega
    subst hke
    rw [List.take_length] at hany
    refine Q.r ?_; (repeat (intro b1; refine Q.r ?_))
    exact N.r1 (RV.tmp rfl RV.nil) (Ent.refl _) ⟨⟨_, rfl, by rw [hany] <;> rfl⟩, rfl⟩
theorem HasO_spec (f : FuncId) (fs cs : List Value) [he : Enters Tryd.prog f] (p : OV → Bool) (a : Option Addr) (c : Nat) (xs : List OV) (A : List HP) (h : RdS A a xs.length 2 (xs.flatMap OV.cells)) (hn : xs.length ≤ 4611686018427387904)
    (hf : ∀ x ∈ xs, CallsS Tryd.prog f (fs ++ [OV.val x] ++ cs) A (fun v L' => v = .bool (p x) ∧ L' = A)) :
    CallsS Tryd.prog 41 [.slice a xs.length c, .func (.func f) fs.toArray cs.toArray] A (fun v L' => v = .bool (xs.any p) ∧ L' = A) := by
  refine CallsS.of_body Tryd.func41 rfl rfl rfl ?_
  refine Q.r ?_; (repeat (intro b1; refine Q.r ?_))
  refine S.cr rfl (IdxO_spec f fs cs p a c xs A h hn hf) ?_
  rintro _ _ ⟨⟨i, rfl, hi⟩, rfl⟩
  refine Q.r ?_; (repeat (intro b1; refine Q.r ?_))
  exact N.r1 (RV.tmp rfl RV.nil) (Ent.refl _) ⟨by rw [← hi], rfl⟩
end Go.Proofs.YtjidejcehmamkaaDoor
/- Vectors, walked: Right, Clone, CutVec, SameVec. No condition. -/
namespace Go.Proofs.YtjidejcehmamkaaDoor
open Go Go.SX
attribute [local irreducible] swp opsS thenS blockS retS CallsS St Ent YieldS anyS drawS
def badC (z : Int) : Bool := decide (z < -268435456) || decide (268435456 < z)
def rightV (xs : List Int) : Bool := decide (0 < xs.length) && decide (xs.length ≤ 8) && !xs.any badC
instance : Enters Tryd.prog 62 := en62
theorem Right1_spec (z : Int) (L : List HP) : CallsS Tryd.prog 62 [I32 z] L (fun v L' => v = .bool (badC z) ∧ L' = L) := by
  refine CallsS.of_body Tryd.func62 rfl rfl rfl ?_
  by_cases h : z < -268435456
  · refine Q.r ?_; (repeat (intro b1; refine Q.r ?_))
    exact N.r1 (RV.tmp rfl RV.nil) (Ent.refl _) ⟨by simp [badC, h], rfl⟩
  · refine Q.r ?_; (repeat (intro b1; refine Q.r ?_))
    exact N.r1 (RV.tmp rfl RV.nil) (Ent.refl _) ⟨by simp [badC, h], rfl⟩
theorem Right_spec (a : Option Addr) (c : Nat) (xs : List Int) (A : List HP) (h : RdS A a xs.length 1 (xs.map I32)) (hn : xs.length ≤ 4611686018427387904) :
    CallsS Tryd.prog 45 [.slice a xs.length c] A (fun v L' => v = .bool (rightV xs) ∧ L' = A) := by
  refine CallsS.of_body Tryd.func45 rfl rfl rfl ?_
  unfold rightV
  by_cases h0 : 0 < xs.length
  · by_cases h8 : xs.length ≤ 8
    · refine Q.r ?_; (repeat (intro b1; refine Q.r ?_))
      refine S.cr rfl (HasI_spec 62 [] [] badC a c xs A (by rw [flat_I]; exact h) hn (fun x _ => Right1_spec x A)) ?_
      rintro _ _ ⟨rfl, rfl⟩
      refine Q.r ?_; (repeat (intro b1; refine Q.r ?_))
      exact N.r1 (RV.tmp rfl RV.nil) (Ent.refl _) ⟨by simp [h0, h8], rfl⟩
    · refine Q.r ?_; (repeat (intro b1; refine Q.r ?_))
      exact N.r1 (RV.tmp rfl RV.nil) (Ent.refl _) ⟨by simp [h0, h8], rfl⟩
  · refine Q.r ?_; (repeat (intro b1; refine Q.r ?_))
    exact N.r1 (RV.tmp rfl RV.nil) (Ent.refl _) ⟨by simp [h0], rfl⟩
theorem CloneI_spec (a : Option Addr) (c : Nat) (xs : List Int) (A : List HP) (h : RdS A a xs.length 1 (xs.map I32)) (hn : xs.length ≤ 1000000) :
    CallsS Tryd.prog 53 [.slice a xs.length c] A (fun v L' => ∃ a' c', v = .slice a' xs.length c' ∧ L' = slO 21 1 a' xs.length c' (xs.map I32) :: A) := by
  refine CallsS.of_body Tryd.func53 rfl rfl rfl ?_
  cases a with
  | none =>
    have hx : xs = [] := by
      rcases h.2 with h0 | ⟨_, _, h0, _⟩
      · exact List.eq_nil_of_length_eq_zero h0
      · cases h0
    subst hx
    refine Q.r ?_; (repeat (intro b1; refine Q.r ?_))
    exact N.r1 (RV.tmp rfl RV.nil) slO_nil ⟨none, 0, rfl, rfl⟩
  | some ad =>
    refine Q.r ?_; (repeat (intro b1; refine Q.r ?_))
    refine opsS_ent (slO_fold (sz := 1) (m := 0) rfl) ?_
    refine S.app0 rfl rfl rfl (SrcS.rd h.sub (I_one _)) (by rfl) (by omega) (by omega) (fun a5 c5 => ?_)
    refine Q.r ?_; (repeat (intro b1; refine Q.r ?_))
    exact N.r1 (RV.tmp rfl RV.nil) (Ent.refl _) ⟨a5, c5, rfl, rfl⟩
theorem CutVec_spec (a : Option Addr) (c k : Nat) (xs : List Int) (A : List HP) (h : RdS A a xs.length 1 (xs.map I32)) (hc : xs.length ≤ c) (hk : k ≤ 1000000) :
    CallsS Tryd.prog 14 [.slice a xs.length c, .int .i64 k] A (fun v L' => ∃ b c', v = .slice b (xs.take k).length c' ∧ L' = slO 21 1 b (xs.take k).length c' ((xs.take k).map I32) :: A) := by
  refine CallsS.of_body Tryd.func14 rfl rfl rfl ?_
  have hl : (xs.take k).length = min k xs.length := List.length_take ..
  have hr : RdS A a (xs.take k).length 1 ((xs.take k).map I32) := by
    have := h.take (k := min k xs.length) (by omega)
    rw [hl]
    rw [Nat.mul_one, ← List.map_take] at this
    rwa [← List.take_eq_take_min] at this
  refine Q.r ?_; (repeat (intro b1; refine Q.r ?_))
  refine opsS_ent (slO_fold (sz := 1) (m := 0) rfl) ?_
  refine S.y (Y.slT (h := (xs.take k).length) rfl rfl (by rw [hl]; omega) (by omega)) ?_
  refine S.app0 rfl rfl rfl (SrcS.rd hr.sub (I_one _)) (by rfl) (by omega) (by omega) (fun a5 c5 => ?_)
  refine Q.r ?_; (repeat (intro b1; refine Q.r ?_))
  exact N.r1 (RV.tmp rfl RV.nil) (Ent.refl _) ⟨a5, c5, rfl, rfl⟩
end Go.Proofs.YtjidejcehmamkaaDoor
/- Chains: what they are; Len, Last, Search, after, At. No condition. -/
namespace Go.Proofs.YtjidejcehmamkaaDoor
open Go Go.SX
attribute [local irreducible] swp opsS thenS blockS retS CallsS St Ent YieldS anyS drawS
abbrev VL := List (Int × List Int)
def okR (M : Nat → Option Obj) (ovs : List OV) : Prop := ∀ o ∈ ovs, SlM M o.a o.vec.length 1 (o.vec.map I32)
def chainP (M : Nat → Option Obj) (p : Nat) (a : Option Addr) (c : Nat) (ovs : List OV) : List HP := [pt p (cl [.slice a ovs.length c] 122), slO 97 2 a ovs.length c (ovs.flatMap OV.cells)]
def chainH (M : Nat → Option Obj) (p : Nat) (vs : VL) : HP := exH fun x : (Option Addr × Nat) × List OV => allH (pureH (x.2.map OV.abs = vs ∧ okR M x.2) :: chainP M p x.1.1 x.1.2 x.2)
theorem chain_shut {M : Nat → Option Obj} {p : Nat} {a : Option Addr} {c : Nat} {ovs : List OV} {L : List HP} (h : okR M ovs) : Ent (pt p (cl [.slice a ovs.length c] 122) :: slO 97 2 a ovs.length c (ovs.flatMap OV.cells) :: L) (chainH M p (ovs.map OV.abs) :: L) :=
  Ent.trans (Ent.shut_pure ⟨rfl, h⟩) (Ent.trans (Ent.shut_all (L := pureH (ovs.map OV.abs = ovs.map OV.abs ∧ okR M ovs) :: chainP M p a c ovs)) (Ent.shut_ex (P := fun x : (Option Addr × Nat) × List OV => allH (pureH (x.2.map OV.abs = ovs.map OV.abs ∧ okR M x.2) :: chainP M p x.1.1 x.1.2 x.2)) ((a, c), ovs)))
theorem calls_chain {g : FuncId} {args : List Value} {R : Value → List HP → Prop} {M : Nat → Option Obj} {p : Nat} {vs : VL} {L : List HP}
    (h : ∀ a c ovs, ovs.map OV.abs = vs → okR M ovs → CallsS Tryd.prog g args (pt p (cl [.slice a ovs.length c] 122) :: slO 97 2 a ovs.length c (ovs.flatMap OV.cells) :: L) R) : CallsS Tryd.prog g args (chainH M p vs :: L) R :=
  CallsS.ex fun x => CallsS.all (CallsS.pure fun hx => h x.1.1 x.1.2 x.2 hx.1 hx.2)
theorem chain_rd {p b c k : Nat} {ovs : List OV} {o : OV} {L : List HP} (h : ovs[k]? = some o) : RdC (pt p (cl [.slice (some ⟨b, 0, none⟩) ovs.length c] 122) :: slO 97 2 (some ⟨b, 0, none⟩) ovs.length c (ovs.flatMap OV.cells) :: L) b (0 + k * 2) (OV.cells o) :=
  RdC.elem (g := OV.cells) (fun _ => rfl) RdC.ofS h
def lastS (vs : VL) : Int := ((vs.getLast?).map (·.1)).getD 0
theorem LenN_spec (L : List HP) : CallsS Tryd.prog 39 [.pointer none] L (fun v L' => v = .int .i64 0 ∧ L' = L) := by
  refine CallsS.of_body Tryd.func39 rfl rfl rfl ?_
  refine Q.r ?_; (repeat (intro b1; refine Q.r ?_))
  exact N.r1 (RV.tmp rfl RV.nil) (Ent.refl _) ⟨rfl, rfl⟩
theorem LastN_spec (L : List HP) : CallsS Tryd.prog 34 [.pointer none] L (fun v L' => v = .int .u64 0 ∧ L' = L) := by
  refine CallsS.of_body Tryd.func34 rfl rfl rfl ?_
  refine Q.r ?_; (repeat (intro b1; refine Q.r ?_))
  refine S.cr rfl (LenN_spec _) ?_
  rintro _ _ ⟨rfl, rfl⟩
  refine Q.r ?_; (repeat (intro b1; refine Q.r ?_))
  exact N.r1 (RV.tmp rfl RV.nil) (Ent.refl _) ⟨rfl, rfl⟩
theorem Len_spec' (p : Nat) (a : Option Addr) (m c : Nat) (L : List HP) : CallsS Tryd.prog 39 [.pointer (some ⟨p, 0, none⟩)] (pt p (cl [.slice a m c] 122) :: L) (fun v L' => v = .int .i64 m ∧ L' = pt p (cl [.slice a m c] 122) :: L) := by
  refine CallsS.of_body Tryd.func39 rfl rfl rfl ?_
  refine Q.r ?_; (repeat (intro b1; refine Q.r ?_))
  exact N.r1 (RV.tmp rfl RV.nil) (Ent.refl _) ⟨rfl, rfl⟩
theorem ChLen_spec (M : Nat → Option Obj) (p : Nat) (vs : VL) (L : List HP) : CallsS Tryd.prog 39 [.pointer (some ⟨p, 0, none⟩)] (chainH M p vs :: L) (fun v L' => v = .int .i64 vs.length ∧ L' = chainH M p vs :: L) := by
  refine calls_chain fun a c ovs h1 h2 => ?_
  subst h1
  exact (Len_spec' p a ovs.length c _).weak (Ent.refl _) (by rintro _ _ ⟨rfl, rfl⟩; exact ⟨_, chain_shut h2, by simp, rfl⟩)
theorem ChLast_spec (M : Nat → Option Obj) (p : Nat) (vs : VL) (L : List HP) (hn : vs.length ≤ 1000000) : CallsS Tryd.prog 34 [.pointer (some ⟨p, 0, none⟩)] (chainH M p vs :: L) (fun v L' => v = .int .u64 (lastS vs) ∧ L' = chainH M p vs :: L) := by
  refine calls_chain fun a c ovs h1 h2 => ?_
  subst h1
  rw [List.length_map] at hn
  refine CallsS.of_body Tryd.func34 rfl rfl rfl ?_
  refine Q.r ?_; (repeat (intro b1; refine Q.r ?_))
  refine S.cr rfl (Len_spec' p a ovs.length c _) ?_
  rintro _ _ ⟨rfl, rfl⟩
  by_cases h0 : ovs.length = 0
  · have hx : ovs = [] := List.eq_nil_of_length_eq_zero h0
    refine Q.r ?_; (repeat (intro b1; refine Q.r ?_))
    exact N.r1 (RV.tmp rfl RV.nil) (chain_shut h2) ⟨by rw [hx]; rfl, rfl⟩
  · obtain ⟨o, ho⟩ := mem_get (l := ovs) (k := ovs.length - 1) (by omega)
    have hl : lastS (ovs.map OV.abs) = o.id := by
      unfold lastS
      rw [List.getLast?_map, List.getLast?_eq_getElem?, ho]; rfl
    refine Q.r ?_; (repeat (intro b1; refine Q.r ?_))
    refine swp_addr a (fun ha => ?_)
    rcases ha with ha | ⟨b, rfl⟩
    · omega
    have hr := chain_rd (p := p) (b := b) (c := c) (L := L) ho
    refine D.start [] [] [0, 1, 2, 3, 4, 5, 6, 7, 8, 9, 10, 11, 12, 13] _ [] rfl (by kernel_rfl) rfl (by kernel_rfl) NoPanic.no (Ent.refl _) ?_
    repeat (first | refine Q.dyn rfl rfl rfl ?_ | refine Q.dyl rfl rfl rfl ?_ | refine D.y rfl rfl rfl (by kernel_rfl) (by first | exact (Y.ldRj rfl (by first | assumption | exact RdC.sub (by assumption)) rfl) | exact Y.guard rfl (Y.ldRj rfl (by first | assumption | exact RdC.sub (by assumption)) rfl)) ?_ | refine D.endA ?_ | refine Q.dy rfl rfl rfl ?_ | refine Q.dp rfl rfl rfl ?_ | refine D.end_ ?_ | refine Q.endH ?_ | (refine D.e rfl rfl rfl ?_; (first | refine S.gskip1 rfl ?_ | refine S.gskip rfl ?_ | refine S.y (Y.gskipU rfl) ?_); refine opsS_nil ?_; refine N.tn ?_) | refine Q.dT rfl rfl rfl ?_ | refine Q.dF rfl rfl rfl ?_ | (refine D.e rfl rfl rfl ?_; (first | (refine GQ.a ?_; refine Q.al (fun b1 => ?_)) | (refine GQ.s ?_; refine Q.st ?_)); refine opsS_nil ?_; refine N.tn ?_))
    refine Q.r ?_; (repeat (intro b1; refine Q.r ?_))
    exact N.r1 (RV.tmp rfl RV.nil) (chain_shut h2) ⟨by rw [hl], rfl⟩
def aftN (vs : VL) (st : Int) : Nat := (vs.filter fun v => decide (v.1 ≤ st)).length
theorem Search_spec (f : FuncId) (fs cs : List Value) [he : Enters Tryd.prog f] (p : Nat → Bool) (m r : Nat) (A : List HP) (hm : m ≤ 4611686018427387904) (hf : ∀ i, i < m → CallsS Tryd.prog f (fs ++ [.int .i64 i] ++ cs) A (fun v L' => v = .bool (p i) ∧ L' = A))
    (hr : r ≤ m) (hlo : ∀ i, i < r → p i = false) (hhi : ∀ i, r ≤ i → i < m → p i = true) :
    CallsS Tryd.prog 69 [.int .i64 m, .func (.func f) fs.toArray cs.toArray] A (fun v L' => v = .int .i64 r ∧ L' = A) := by
  refine CallsS.of_body Tryd.func69 rfl rfl rfl ?_
  refine Q.r ?_; (repeat (intro b1; refine Q.r ?_))
  refine swp_loop (σ := Nat × Nat) (fun s => [(1, .func (.func f) fs.toArray cs.toArray), (5, .int .i64 s.1), (6, .int .i64 s.2)]) (fun _ => A) (fun s => s.1 ≤ r ∧ r ≤ s.2 ∧ s.2 ≤ m) (fun s => s.2 - s.1) (0, m) ⟨rfl, rfl, rfl, trivial⟩ (Ent.refl _) ⟨by dsimp only; omega, by dsimp only; omega, by dsimp only; omega⟩ ?_
  rintro ⟨i, j⟩ ⟨h1, h2, h3⟩
  dsimp only at h1 h2 h3 ⊢
  by_cases hij : i < j
  · refine Q.rn ?_; (repeat (intro b1; refine Q.rn ?_))
    refine S.y (Y.cvi rfl) ?_
    rw [wrap_u64 (by omega) (by omega)]
    refine S.y (Y.shr (a := i + j) (b := 1) rfl rfl (by decide)) ?_
    rw [show (i + j) / 2 ^ 1 = (i + j) / 2 by simp]
    refine S.y (Y.cvi rfl) ?_
    rw [wrap_i64 (by omega) (by omega)]
    obtain ⟨h, hh⟩ : ∃ h, h = (i + j) / 2 := ⟨_, rfl⟩
    have hh1 : i ≤ h := by omega
    have hh2 : h < j := by omega
    rw [← hh]
    refine Q.rn ?_; (repeat (intro b1; refine Q.rn ?_))
    refine S.crF (fs := fs) (cs := cs) rfl rfl (hf h (by omega)) ?_
    rintro _ _ ⟨rfl, rfl⟩
    cases hp : p h with
    | true =>
      have hrh : r ≤ h := by
        by_cases hc : r ≤ h
        · exact hc
        · rw [hlo h (by omega)] at hp; cases hp
      refine Q.rn ?_; (repeat (intro b1; refine Q.rn ?_))
      exact ⟨(i, h), ⟨rfl, rfl, rfl, trivial⟩, Ent.refl _, ⟨h1, hrh, by dsimp only; omega⟩, by dsimp only; omega⟩
    | false =>
      have hrh : h < r := by
        by_cases hc : h < r
        · exact hc
        · rw [hhi h (by omega) (by omega)] at hp; cases hp
      refine Q.rn ?_; (repeat (intro b1; refine Q.rn ?_))
      exact ⟨(h + 1, j), ⟨rfl, rfl, rfl, trivial⟩, Ent.refl _, ⟨hrh, h2, h3⟩, by dsimp only; omega⟩
  · have : i = r := by omega
    subst this
    refine Q.rn ?_; (repeat (intro b1; refine Q.rn ?_))
    exact N.r1 (RV.tmp rfl RV.nil) (Ent.refl _) ⟨rfl, rfl⟩
end Go.Proofs.YtjidejcehmamkaaDoor
/- Chains: after, At, copyOf, Put, New, List. No condition. -/
namespace Go.Proofs.YtjidejcehmamkaaDoor
open Go Go.SX
attribute [local irreducible] swp opsS thenS blockS retS CallsS St Ent YieldS anyS drawS
def sortedV (vs : VL) : Prop := (vs.map (·.1)).Pairwise (· < ·)
theorem aft_lo : ∀ {vs : VL} {st : Int}, sortedV vs → ∀ i v, i < aftN vs st → vs[i]? = some v → v.1 ≤ st
  | [], _, _, _, _, _, h => by simp at h
  | x :: t, st, hs, i, v, hi, h => by
    unfold sortedV at hs
    rw [List.map_cons, List.pairwise_cons] at hs
    unfold aftN at hi
    by_cases hx : x.1 ≤ st
    · cases i with
      | zero => simp at h; subst h; exact hx
      | succ i =>
        simp [hx] at hi
        exact aft_lo (vs := t) hs.2 i v hi (by simpa using h)
    · have : t.filter (fun v => decide (v.1 ≤ st)) = [] := by
        rw [List.filter_eq_nil_iff]
        intro y hy
        have := hs.1 y.1 (List.mem_map_of_mem hy)
        simp; omega
      simp [hx, this] at hi
theorem aft_hi : ∀ {vs : VL} {st : Int}, sortedV vs → ∀ i v, aftN vs st ≤ i → vs[i]? = some v → st < v.1
  | [], _, _, _, _, _, h => by simp at h
  | x :: t, st, hs, i, v, hi, h => by
    unfold sortedV at hs
    rw [List.map_cons, List.pairwise_cons] at hs
    unfold aftN at hi
    by_cases hx : x.1 ≤ st
    · cases i with
      | zero => simp [hx] at hi
      | succ i =>
        simp [hx] at hi
        exact aft_hi (vs := t) hs.2 i v hi (by simpa using h)
    · cases i with
      | zero => simp at h; subst h; omega
      | succ i =>
        have := hs.1 v.1 (List.mem_map_of_mem (List.mem_of_getElem? (by simpa using h)))
        omega
theorem aft_le (vs : VL) (st : Int) : aftN vs st ≤ vs.length := List.length_filter_le _ _
instance : Enters Tryd.prog 70 := en70
theorem after1_spec (b2 b3 p b c i : Nat) (st : Int) (ovs : List OV) (o : OV) (L : List HP) (ho : ovs[i]? = some o) :
    CallsS Tryd.prog 70 ([] ++ [.int .i64 i] ++ [.pointer (some ⟨b2, 0, none⟩), .pointer (some ⟨b3, 0, none⟩)])
      (pt b3 (cl [.int .u64 st] 30) :: pt b2 (cl [.pointer (some ⟨p, 0, none⟩)] 92) :: pt p (cl [.slice (some ⟨b, 0, none⟩) ovs.length c] 122) :: slO 97 2 (some ⟨b, 0, none⟩) ovs.length c (ovs.flatMap OV.cells) :: L)
      (fun v L' => v = .bool (decide (st < o.id)) ∧ L' = pt b3 (cl [.int .u64 st] 30) :: pt b2 (cl [.pointer (some ⟨p, 0, none⟩)] 92) :: pt p (cl [.slice (some ⟨b, 0, none⟩) ovs.length c] 122) :: slO 97 2 (some ⟨b, 0, none⟩) ovs.length c (ovs.flatMap OV.cells) :: L) := by
  refine CallsS.of_body Tryd.func70 rfl rfl rfl ?_
  have hi : i < ovs.length := (List.getElem?_eq_some_iff.1 ho).1
  have hr := chain_rd (p := p) (b := b) (c := c) (L := L) ho
  refine Q.r ?_; (repeat (intro b1; refine Q.r ?_))
  refine D.start [] [] [0, 1, 2, 3, 4, 5, 6, 7, 8, 9, 10] _ [] rfl (by kernel_rfl) rfl (by kernel_rfl) NoPanic.no (Ent.refl _) ?_
  repeat (first | refine Q.dyn rfl rfl rfl ?_ | refine Q.dyl rfl rfl rfl ?_ | refine D.y rfl rfl rfl (by kernel_rfl) (by first | exact (Y.ldRj rfl (by first | assumption | exact RdC.sub (by assumption)) rfl) | exact Y.guard rfl (Y.ldRj rfl (by first | assumption | exact RdC.sub (by assumption)) rfl)) ?_ | refine D.endA ?_ | refine Q.dy rfl rfl rfl ?_ | refine Q.dp rfl rfl rfl ?_ | refine D.end_ ?_ | refine Q.endH ?_ | (refine D.e rfl rfl rfl ?_; (first | refine S.gskip1 rfl ?_ | refine S.gskip rfl ?_ | refine S.y (Y.gskipU rfl) ?_); refine opsS_nil ?_; refine N.tn ?_) | refine Q.dT rfl rfl rfl ?_ | refine Q.dF rfl rfl rfl ?_ | (refine D.e rfl rfl rfl ?_; (first | (refine GQ.a ?_; refine Q.al (fun b1 => ?_)) | (refine GQ.s ?_; refine Q.st ?_)); refine opsS_nil ?_; refine N.tn ?_))
  refine Q.r ?_; (repeat (intro b1; refine Q.r ?_))
  exact N.r1 (RV.tmp rfl RV.nil) (Ent.refl _) ⟨rfl, rfl⟩
theorem after_spec' (p : Nat) (a : Option Addr) (c : Nat) (ovs : List OV) (st : Int) (L : List HP) (hs : sortedV (ovs.map OV.abs)) (hn : ovs.length ≤ 1000000) :
    CallsS Tryd.prog 57 [.pointer (some ⟨p, 0, none⟩), .int .u64 st] (pt p (cl [.slice a ovs.length c] 122) :: slO 97 2 a ovs.length c (ovs.flatMap OV.cells) :: L)
      (fun v L' => v = .int .i64 (aftN (ovs.map OV.abs) st) ∧ L' = pt p (cl [.slice a ovs.length c] 122) :: slO 97 2 a ovs.length c (ovs.flatMap OV.cells) :: L) := by
  refine CallsS.addr a fun ha => ?_
  refine CallsS.of_body Tryd.func57 rfl rfl rfl ?_
  refine Q.r ?_; (repeat (intro b1; refine Q.r ?_))
  rename_i b2
  refine S.y (Y.mf rfl rfl) ?_
  have hmap : ∀ (i : Nat) (o : OV), ovs[i]? = some o → (ovs.map OV.abs)[i]? = some (o.id, o.vec) := fun i o h => by rw [List.getElem?_map, h]; rfl
  refine S.cr rfl (Search_spec 70 [] [.pointer (some ⟨b2, 0, none⟩), .pointer (some ⟨b1, 0, none⟩)] (fun i => match ovs[i]? with | some o => decide (st < o.id) | none => false) ovs.length (aftN (ovs.map OV.abs) st) _ (by omega) ?_ (by have := aft_le (ovs.map OV.abs) st; simpa using this) ?_ ?_) ?_
  · intro i hi
    obtain ⟨o, ho⟩ := mem_get hi
    rcases ha with ha | ⟨b, rfl⟩
    · omega
    have := after1_spec b2 b1 p b c i st ovs o L ho
    simpa only [ho] using this
  · intro i hi
    cases ho : ovs[i]? with
    | none => rfl
    | some o =>
      have := aft_lo hs i _ hi (hmap i o ho)
      simp only [decide_eq_false_iff_not]
      dsimp only at this; omega
  · intro i hi hlt
    obtain ⟨o, ho⟩ := mem_get hlt
    have := aft_hi hs i _ hi (hmap i o ho)
    rw [ho]
    simpa using this
  rintro _ _ ⟨rfl, rfl⟩
  refine Q.r ?_; (repeat (intro b1; refine Q.r ?_))
  exact N.r1 (RV.tmp rfl RV.nil) (Ent.drop (Ent.drop (Ent.refl _))) ⟨rfl, rfl⟩
def atV (vs : VL) (st : Int) : List Int := if aftN vs st = 0 then [] else ((vs[aftN vs st - 1]?).map (·.2)).getD []
end Go.Proofs.YtjidejcehmamkaaDoor
/- Chains: copyOf, Put, New, List. No condition. -/
namespace Go.Proofs.YtjidejcehmamkaaDoor
open Go Go.SX
attribute [local irreducible] swp opsS thenS blockS retS CallsS St Ent YieldS anyS drawS
theorem ChCopy_spec (o : OV) (A : List HP) (h : RdS A o.a o.vec.length 1 (o.vec.map I32)) (hn : o.vec.length ≤ 1000000) :
    CallsS Tryd.prog 54 [o.val] A (fun v L' => ∃ a c, v = OV.val ⟨o.id, a, c, o.vec⟩ ∧ L' = slO 21 1 a o.vec.length c (o.vec.map I32) :: A) := by
  refine CallsS.of_body Tryd.func54 rfl rfl rfl ?_
  refine Q.r ?_; (repeat (intro b1; refine Q.r ?_))
  refine S.cr rfl (CloneI_spec o.a o.c o.vec _ h.sub hn) ?_
  rintro _ _ ⟨a', c', rfl, rfl⟩
  refine Q.r ?_; (repeat (intro b1; refine Q.r ?_))
  exact N.r1 (by apply RV.cellN; rfl; exact RdC.row; rfl; exact RV.nil) (Ent.cons (Ent.drop (Ent.drop (Ent.refl _)))) ⟨a', c', rfl, rfl⟩
class PickCh (p : Nat) (L : List HP) (M : outParam (Nat → Option Obj)) (vs : outParam VL) (L0 : outParam (List HP)) : Prop where
  ent : Ent L (chainH M p vs :: L0)
instance PickCh.here {p : Nat} {L : List HP} {M : Nat → Option Obj} {vs : VL} : PickCh p (chainH M p vs :: L) M vs L := ⟨Ent.refl _⟩
instance (priority := low) PickCh.there {p : Nat} {A : HP} {L L0 : List HP} {M : Nat → Option Obj} {vs : VL} [h : PickCh p L M vs L0] : PickCh p (A :: L) M vs (A :: L0) := ⟨(h.ent.cons).trans (Ent.perm (.swap _ _ _))⟩
section
variable {n : Nat} {ops rest : List Oper} {cd : Code} {Q : Post} {f : Env} {L L0 : List HP} {M : Nat → Option Obj} {vs : VL}
theorem swp_chain (p : Nat) [hp : PickCh p L M vs L0] (h : ∀ a c ovs, ovs.map OV.abs = vs → okR M ovs → swp Tryd.prog n cd Q f (pt p (cl [.slice a ovs.length c] 122) :: slO 97 2 a ovs.length c (ovs.flatMap OV.cells) :: L0)) : swp Tryd.prog n cd Q f L :=
  swp_ent hp.ent (swp_ex fun x => swp_all (swp_pure fun hx => h x.1.1 x.1.2 x.2 hx.1 hx.2))
theorem S.cch {d : Tmp} {ty : TypeId} {pos : String} {af : Array Edge} {g : FuncId} {xs : Array Operand} {ats : Array TypeId} {args : List Value} {R : Value → List HP → Prop} (p : Nat) [hp : PickCh p L M vs L0] [he : Enters Tryd.prog g] (hx : argsL f xs.toList = some args) (hc : CallsS Tryd.prog g args (chainH M p vs :: L0) R) (hk : ∀ v L', R v L' → opsS Tryd.prog n ops rest Q (upd f d v) L') :
    opsS Tryd.prog n ops (⟨some d, .call ⟨.value (.func g), xs, ats⟩, ty, pos, af, none⟩ :: rest) Q f L := opsS_ent hp.ent (S.cr hx hc hk)
end
def putE (vs : VL) (st : Int) (vec : List Int) : Int :=
  if st = 0 ∨ 1099511627776 < st then 1 else if 0 < vec.length ∧ rightV vec = false then 4 else if st ≤ lastS vs then 7 else 0
set_option maxHeartbeats 2000000 in
theorem Put_spec (M : Nat → Option Obj) (p : Nat) (vs : VL) (o : OV) (A : List HP) (h : RdS (roM M :: A) o.a o.vec.length 1 (o.vec.map I32)) (hv : o.vec.length ≤ 1000000) (hn : vs.length ≤ 1000000) :
    CallsS Tryd.prog 36 [.pointer (some ⟨p, 0, none⟩), o.val] (chainH M p vs :: roM M :: A)
      (fun v L' => v = .int .i64 (putE vs o.id o.vec) ∧ (putE vs o.id o.vec ≠ 0 → L' = chainH M p vs :: roM M :: A) ∧ (putE vs o.id o.vec = 0 → ∃ M', leM M M' ∧ L' = chainH M' p (vs ++ [o.abs]) :: roM M' :: A)) := by
  have hsub : Sub (roM M :: A) (chainH M p vs :: roM M :: A) := inferInstance
  unfold putE
  refine CallsS.of_body Tryd.func36 rfl rfl rfl ?_
  by_cases h1 : o.id = 0 ∨ 1099511627776 < o.id
  · rw [if_pos h1]
    by_cases h1a : o.id = 0
    · refine Q.r ?_; (repeat (intro b1; refine Q.r ?_))
      exact N.r1 (RV.tmp rfl RV.nil) (Ent.drop (Ent.refl _)) ⟨rfl, fun _ => rfl, fun h => by cases h⟩
    · refine Q.r ?_; (repeat (intro b1; refine Q.r ?_))
      exact N.r1 (RV.tmp rfl RV.nil) (Ent.drop (Ent.refl _)) ⟨rfl, fun _ => rfl, fun h => by cases h⟩
  rw [if_neg h1]
  have key : ∀ (f : Env) (cd : Code) (b1 : Nat), True := fun _ _ _ => trivial
  by_cases h2 : 0 < o.vec.length ∧ rightV o.vec = false
  · rw [if_pos h2]
    obtain ⟨h2a, h2b⟩ := h2
    refine Q.r ?_; (repeat (intro b1; refine Q.r ?_))
    refine S.cr rfl (Right_spec o.a o.c o.vec _ h.sub (by omega)) ?_
    rintro _ _ ⟨rfl, rfl⟩
    rw [h2b]
    refine Q.r ?_; (repeat (intro b1; refine Q.r ?_))
    exact N.r1 (RV.tmp rfl RV.nil) (Ent.drop (Ent.refl _)) ⟨rfl, fun _ => rfl, fun h => by cases h⟩
  rw [if_neg h2]
  refine swp_seq ?_
  refine swp_region ?_; (repeat (first | (refine GQ.y ?_; refine Q.y ?_) | (refine GQ.a ?_; refine Q.al (fun b1 => ?_)) | (refine GQ.s ?_; refine Q.st ?_) | (refine GQ.g ?_; refine Q.gq ?_))); refine opsS_nil ?_; first | refine N.tn ?_ | skip
  refine swp_seq ?_
  refine swp_block ?_
  have hret : ∀ (Q : Prop), Q → True := fun _ _ => trivial
  by_cases h3 : o.id ≤ lastS vs
  · rw [if_pos h3]
    by_cases h0 : 0 < o.vec.length
    · have hr : rightV o.vec = true := by
        cases hr : rightV o.vec with
        | true => rfl
        | false => exact absurd ⟨h0, hr⟩ h2
      refine Q.r ?_; (repeat (intro b1; refine Q.r ?_))
      refine S.cr rfl (Right_spec o.a o.c o.vec _ h.sub (by omega)) ?_
      rintro _ _ ⟨rfl, rfl⟩
      rw [hr]
      refine Q.r ?_; (repeat (intro b1; refine Q.r ?_))
      refine Q.dgo [true, false, false] [3] [] [0, 1, 2, 3, 4, 5] ?_
      refine Q.rd ?_; (repeat (intro b1; refine Q.rd ?_))
      refine D.e rfl rfl rfl ?_
      refine S.cr rfl (ChLast_spec M p vs _ hn) ?_
      rintro _ _ ⟨rfl, rfl⟩
      refine Q.r ?_; (repeat (intro b1; refine Q.r ?_))
      refine Q.rd ?_; (repeat (intro b1; refine Q.rd ?_))
      refine Q.r ?_; (repeat (intro b1; refine Q.r ?_))
      exact N.r1 (RV.tmp rfl RV.nil) (Ent.pick (Ent.drop (Ent.refl _))) ⟨rfl, fun _ => rfl, fun h => by cases h⟩
    · refine Q.r ?_; (repeat (intro b1; refine Q.r ?_))
      refine Q.dgo [true, false, false] [3] [] [0, 1, 2, 3, 4, 5] ?_
      refine Q.rd ?_; (repeat (intro b1; refine Q.rd ?_))
      refine D.e rfl rfl rfl ?_
      refine S.cr rfl (ChLast_spec M p vs _ hn) ?_
      rintro _ _ ⟨rfl, rfl⟩
      refine Q.r ?_; (repeat (intro b1; refine Q.r ?_))
      refine Q.rd ?_; (repeat (intro b1; refine Q.rd ?_))
      refine Q.r ?_; (repeat (intro b1; refine Q.r ?_))
      exact N.r1 (RV.tmp rfl RV.nil) (Ent.pick (Ent.drop (Ent.refl _))) ⟨rfl, fun _ => rfl, fun h => by cases h⟩
  rw [if_neg h3]
  refine swp_cutB (σ := Unit) (fun _ => [(0, .pointer (some ⟨p, 0, none⟩)), (3, .pointer (some ⟨b1, 0, none⟩))]) (fun _ => chainH M p vs :: pt b1 (cl o.cells 97) :: roM M :: A) (fun _ => True) ?_ ?_
  · by_cases h0 : 0 < o.vec.length
    · have hr : rightV o.vec = true := by
        cases hr : rightV o.vec with
        | true => rfl
        | false => exact absurd ⟨h0, hr⟩ h2
      refine Q.r ?_; (repeat (intro b1; refine Q.r ?_))
      refine S.cr rfl (Right_spec o.a o.c o.vec _ h.sub (by omega)) ?_
      rintro _ _ ⟨rfl, rfl⟩
      rw [hr]
      refine Q.r ?_; (repeat (intro b1; refine Q.r ?_))
      refine Q.dgo [true, false, false] [3] [] [0, 1, 2, 3, 4, 5] ?_
      refine Q.rd ?_; (repeat (intro b1; refine Q.rd ?_))
      refine D.e rfl rfl rfl ?_
      refine S.cr rfl (ChLast_spec M p vs _ hn) ?_
      rintro _ _ ⟨rfl, rfl⟩
      refine Q.r ?_; (repeat (intro b1; refine Q.r ?_))
      refine Q.rd ?_; (repeat (intro b1; refine Q.rd ?_))
      refine Q.r ?_; (repeat (intro b1; refine Q.r ?_))
      exact ⟨(), ⟨rfl, rfl, trivial⟩, by repeat (first | exact Ent.refl _ | exact Ent.nil | refine Ent.pick ?_ | refine Ent.nilS ?_ | refine Ent.nilM ?_ | refine Ent.drop ?_), trivial⟩
    · refine Q.r ?_; (repeat (intro b1; refine Q.r ?_))
      refine Q.dgo [true, false, false] [3] [] [0, 1, 2, 3, 4, 5] ?_
      refine Q.rd ?_; (repeat (intro b1; refine Q.rd ?_))
      refine D.e rfl rfl rfl ?_
      refine S.cr rfl (ChLast_spec M p vs _ hn) ?_
      rintro _ _ ⟨rfl, rfl⟩
      refine Q.r ?_; (repeat (intro b1; refine Q.r ?_))
      refine Q.rd ?_; (repeat (intro b1; refine Q.rd ?_))
      refine Q.r ?_; (repeat (intro b1; refine Q.r ?_))
      exact ⟨(), ⟨rfl, rfl, trivial⟩, by repeat (first | exact Ent.refl _ | exact Ent.nil | refine Ent.pick ?_ | refine Ent.nilS ?_ | refine Ent.nilM ?_ | refine Ent.drop ?_), trivial⟩
  rintro _ _
  refine swp_chain p (fun a c ovs e1 e2 => ?_)
  subst e1
  rw [List.length_map] at hn
  refine Q.r ?_; (repeat (intro b1; refine Q.r ?_))
  refine Q.dgo [true, false, true, false] [6, 7, 8, 11] [11] [0, 1, 2, 3, 4, 5, 6, 7, 8, 9, 10, 11] ?_
  refine Q.rd ?_; (repeat (intro b1; refine Q.rd ?_))
  refine D.e rfl rfl rfl ?_
  refine S.cr rfl (ChCopy_spec o _ h.sub hv) ?_
  rintro _ _ ⟨a', c', rfl, rfl⟩
  refine Q.r ?_; (repeat (intro b1; refine Q.r ?_))
  refine Q.rd ?_; (repeat (intro b1; refine Q.rd ?_))
  refine D.e rfl rfl rfl ?_
  refine S.app rfl rfl (SrcS.sl RdC.row (by rfl) (by rfl)) (by rfl) (by omega) (by omega) (fun a2 c2 => ?_)
  refine Q.r ?_; (repeat (intro b1; refine Q.r ?_))
  refine Q.rd ?_; (repeat (intro b1; refine Q.rd ?_))
  refine Q.dc rfl rfl rfl rfl ?_
  refine Q.r ?_; (repeat (intro b1; refine Q.r ?_))
  refine Q.rd ?_; (repeat (intro b1; refine Q.rd ?_))
  refine N.tn ?_
  refine swp_abs a' (fun M' hl hs => ?_)
  refine Q.r ?_; (repeat (intro b1; refine Q.r ?_))
  have hok : okR M' (ovs ++ [⟨o.id, a', c', o.vec⟩]) := fun u hu => by
    rcases List.mem_append.1 hu with hu | hu
    · exact (e2 u hu).mono hl
    · obtain rfl := List.mem_singleton.1 hu
      exact hs
  refine N.r1 (RV.tmp rfl RV.nil) (L' := chainH M' p (ovs.map OV.abs ++ [o.abs]) :: roM M' :: A) ?_ ⟨rfl, fun h => absurd rfl h, fun _ => ⟨M', hl, rfl⟩⟩
  have := chain_shut (p := p) (a := a2) (c := c2) (L := roM M' :: A) hok
  rw [len_snoc, flat_snoc, List.map_append] at this
  refine Ent.trans ?_ this
  repeat (first | exact Ent.refl _ | exact Ent.nil | refine Ent.pick ?_ | refine Ent.nilS ?_ | refine Ent.nilM ?_ | refine Ent.drop ?_)
theorem ChNew0_spec (M : Nat → Option Obj) (L : List HP) : CallsS Tryd.prog 35 [.slice none 0 0] L (fun v L' => ∃ p, v = .tuple #[.pointer (some ⟨p, 0, none⟩), .int .i64 0] ∧ L' = chainH M p [] :: L) := by
  refine CallsS.of_body Tryd.func35 rfl rfl rfl ?_
  refine Q.r ?_; (repeat (intro b1; refine Q.r ?_))
  refine swp_loop (σ := Unit) (fun k => [(4, .pointer (some ⟨b1, 0, none⟩)), (11, .int .i64 0), (12, .int .i64 0)]) (fun _ => pt b1 (cl [.slice none 0 0] 122) :: L) (fun k => True) (fun k => 0) () ⟨rfl, rfl, rfl, trivial⟩ (by repeat (first | exact Ent.refl _ | exact Ent.nil | refine Ent.pick ?_ | refine Ent.nilS ?_ | refine Ent.nilM ?_ | refine Ent.drop ?_)) trivial ?_
  intro _ _
  refine Q.r ?_; (repeat (intro b1; refine Q.r ?_))
  refine N.r2 (RV.tmp rfl (RV.tmp rfl RV.nil)) (Ent.trans (Ent.cons (slO_nil (t := 97) (sz := 2))) ?_) ⟨b1, rfl, rfl⟩
  exact chain_shut (M := M) (p := b1) (a := none) (c := 0) (ovs := []) (L := L) (by intro o ho; cases ho)
set_option maxHeartbeats 1000000 in
theorem List_spec (M : Nat → Option Obj) (p : Nat) (vs : VL) (L : List HP) (hn : vs.length ≤ 1000000) (hv : ∀ v ∈ vs, v.2.length ≤ 1000000) :
    CallsS Tryd.prog 73 [.pointer (some ⟨p, 0, none⟩)] (chainH M p vs :: roM M :: L)
      (fun v L' => ∃ (a : Option Addr) (c : Nat) (ovs : List OV), ovs.map OV.abs = vs ∧ v = .slice a ovs.length c ∧ L' = slO 97 2 a ovs.length c (ovs.flatMap OV.cells) :: bodV 21 (ovs.map fun o => (o.a, o.c, o.vec.map I32)) :: chainH M p vs :: roM M :: L) := by
  refine calls_chain fun a c ovs h1 h2 => ?_
  subst h1
  rw [List.length_map] at hn
  refine CallsS.addr a fun ha => ?_
  refine CallsS.of_body Tryd.func73 rfl rfl rfl ?_
  refine Q.r ?_; (repeat (intro b1; refine Q.r ?_))
  refine swp_loop (σ := Nat × Option Addr × Nat × List OV) (fun s => [(11, .slice a ovs.length c), (12, .int .i64 ovs.length), (3, .slice s.2.1 s.2.2.2.length s.2.2.1), (13, .int .i64 s.1)])
    (fun s => pt p (cl [.slice a ovs.length c] 122) :: slO 97 2 a ovs.length c (ovs.flatMap OV.cells) :: slO 97 2 s.2.1 s.2.2.2.length s.2.2.1 (s.2.2.2.flatMap OV.cells) :: bodV 21 (s.2.2.2.map fun o => (o.a, o.c, o.vec.map I32)) :: roM M :: L)
    (fun s => s.1 ≤ ovs.length ∧ s.2.2.2.map OV.abs = (ovs.take s.1).map OV.abs) (fun s => ovs.length - s.1) (0, none, 0, []) ⟨rfl, rfl, rfl, rfl, trivial⟩ ?_ ⟨by omega, by simp⟩ ?_
  · refine Ent.cons (Ent.cons (Ent.trans ?_ slO_nil))
    exact bodV_nil
  rintro ⟨k, a3, c3, us⟩ ⟨hk, hus⟩
  dsimp only at hk hus ⊢
  have hul : us.length = k := by
    have := congrArg List.length hus
    simp at this; omega
  by_cases hlt : k < ovs.length
  · obtain ⟨o, ho⟩ := mem_get hlt
    have hmo : o ∈ ovs := List.mem_of_getElem? ho
    rcases ha with ha | ⟨b, rfl⟩
    · omega
    have hr := chain_rd (p := p) (b := b) (c := c) (L := slO 97 2 a3 us.length c3 (us.flatMap OV.cells) :: bodV 21 (us.map fun o => (o.a, o.c, o.vec.map I32)) :: roM M :: L) ho
    refine Q.r ?_; (repeat (intro b1; refine Q.r ?_))
    refine S.cr rfl (ChCopy_spec o _ ((h2 o hmo).rd) (hv o.abs (List.mem_map_of_mem hmo))) ?_
    rintro _ _ ⟨a', c', rfl, rfl⟩
    refine Q.r ?_; (repeat (intro b1; refine Q.r ?_))
    refine S.app rfl rfl (SrcS.sl RdC.row (by rfl) (by rfl)) (by rfl) (by omega) (by omega) (fun a4 c4 => ?_)
    refine Q.r ?_; (repeat (intro b1; refine Q.r ?_))
    refine ⟨(k + 1, a4, c4, us ++ [⟨o.id, a', c', o.vec⟩]), ⟨rfl, rfl, congrArg some (by simp), rfl, trivial⟩, ?_, ⟨by dsimp only; omega, by dsimp only; rw [List.map_append, hus, take_snoc ho, List.map_append]; rfl⟩, by dsimp only; omega⟩
    dsimp only
    rw [len_snoc, flat_snoc, List.map_append, List.map_cons, List.map_nil]
    refine Ent.pick (Ent.pick (Ent.pick ?_))
    refine Ent.trans ?_ (bodV_snoc (m := o.vec.length) (by simp))
    repeat (first | exact Ent.refl _ | exact Ent.nil | refine Ent.pick ?_ | refine Ent.nilS ?_ | refine Ent.nilM ?_ | refine Ent.drop ?_)
  · have hke : k = ovs.length := by omega
    subst hke
    rw [List.take_length] at hus
    refine Q.r ?_; (repeat (intro b1; refine Q.r ?_))
    refine N.r1 (RV.tmp rfl RV.nil) ?_ ⟨a3, c3, us, hus, rfl, rfl⟩
    exact Ent.pick (Ent.pick (chain_shut h2))
end Go.Proofs.YtjidejcehmamkaaDoor
