/- The ref's vault: what it is; Right, Check, Holds, Find, last, Chain, SameOps. No condition. -/
import Derived.Test.YtieejgbjgcbbjaaGreatVtI
set_option linter.unusedVariables false
set_option linter.unusedSimpArgs false
namespace Go.Proofs.YtieejgbjgcbbjaaGreat
open Go Go.SX
attribute [local irreducible] swp opsS thenS blockS retS CallsS St Ent YieldS anyS drawS
structure EV where
  id : Int
  a : Option Addr
  c : Nat
  vs : List OV
abbrev EV.cells (e : EV) : List Value := [.int .u64 e.id, .slice e.a e.vs.length e.c]
abbrev EV.abs (e : EV) : Int × VL := (e.id, e.vs.map OV.abs)
def okE (M : Nat → Option Obj) (e : EV) : Prop := SlM M e.a e.vs.length 2 (e.vs.flatMap OV.cells) ∧ okR M e.vs
theorem okE.mono {M M' : Nat → Option Obj} {e : EV} (h : okE M e) (hl : leM M M') : okE M' e := ⟨h.1.mono hl, fun o ho => (h.2 o ho).mono hl⟩
abbrev rP (p : Nat) (dim : Int) (a : Option Addr) (es : List EV) (c : Nat) (a' : Option Addr) (is : List IV) (c' : Nat) (mark : Int) : HP := pt p (cl [.int .i64 dim, .slice a es.length c, .slice a' is.length c', .int .u64 mark] 33)
structure ROK (M : Nat → Option Obj) (st : VS) (a : Option Addr) (c : Nat) (es : List EV) (a' : Option Addr) (c' : Nat) (is : List IV) : Prop where
  ch : (es.map EV.abs).Perm st.ch
  cs : (es.map (·.id)).Pairwise (· < ·)
  its : (is.map IV.abs).Perm st.its
  ss : (is.map (·.txn)).Pairwise (· < ·)
  oe : ∀ e ∈ es, okE M e
  oi : ∀ i ∈ is, okI M i
  sE : SlM M a es.length 2 (es.flatMap EV.cells)
  sI : SlM M a' is.length 3 (is.flatMap IV.cells)
  cE : es.length ≤ c
  cI : is.length ≤ c'
  k1 : keysOK st.ch
  k2 : keysOK st.its
  oc : ∀ i ∈ is, ∀ o ∈ i.ops, o.vec.length ≤ o.c
structure RX where
  a : Option Addr
  c : Nat
  es : List EV
  a' : Option Addr
  c' : Nat
  is : List IV
  M : Nat → Option Obj
def refH (p : Nat) (st : VS) : HP := exH fun x : RX => allH [pureH (ROK x.M st x.a x.c x.es x.a' x.c' x.is), rP p st.dim x.a x.es x.c x.a' x.is x.c' st.mark, roM x.M]
theorem ref_shut {p : Nat} {M : Nat → Option Obj} {st : VS} {a a' : Option Addr} {c c' : Nat} {es : List EV} {is : List IV} {L : List HP} (h : ROK M st a c es a' c' is) : Ent (rP p st.dim a es c a' is c' st.mark :: roM M :: L) (refH p st :: L) :=
  Ent.trans (Ent.shut_pure h) (Ent.trans (Ent.shut_all (L := [_, _, _])) (Ent.shut_ex (P := fun x : RX => allH [pureH (ROK x.M st x.a x.c x.es x.a' x.c' x.is), rP p st.dim x.a x.es x.c x.a' x.is x.c' st.mark, roM x.M]) ⟨a, c, es, a', c', is, M⟩))
theorem calls_ref {g : FuncId} {args : List Value} {R : Value → List HP → Prop} {p : Nat} {st : VS} {L : List HP}
    (h : ∀ M a c es a' c' is, ROK M st a c es a' c' is → CallsS Tryz.prog g args (rP p st.dim a es c a' is c' st.mark :: roM M :: L) R) : CallsS Tryz.prog g args (refH p st :: L) R :=
  CallsS.ex fun x => CallsS.all (CallsS.pure fun hx => h x.M x.a x.c x.es x.a' x.c' x.is hx)
class PickR (p : Nat) (L : List HP) (st : outParam VS) (L0 : outParam (List HP)) : Prop where
  ent : Ent L (refH p st :: L0)
instance PickR.here {p : Nat} {L : List HP} {st : VS} : PickR p (refH p st :: L) st L := ⟨Ent.refl _⟩
instance (priority := low) PickR.there {p : Nat} {A : HP} {L L0 : List HP} {st : VS} [h : PickR p L st L0] : PickR p (A :: L) st (A :: L0) := ⟨(h.ent.cons).trans (Ent.perm (.swap _ _ _))⟩
section
variable {n : Nat} {ops rest : List Oper} {cd : Code} {Q : Post} {f : Env} {L L0 : List HP} {st : VS}
theorem swp_ref (p : Nat) [hp : PickR p L st L0] (h : ∀ M a c es a' c' is, ROK M st a c es a' c' is → swp Tryz.prog n cd Q f (rP p st.dim a es c a' is c' st.mark :: roM M :: L0)) : swp Tryz.prog n cd Q f L :=
  swp_ent hp.ent (swp_ex fun x => swp_all (swp_pure fun hx => h x.M x.a x.c x.es x.a' x.c' x.is hx))
theorem S.cf {d : Tmp} {ty : TypeId} {pos : String} {af : Array Edge} {g : FuncId} {xs : Array Operand} {ats : Array TypeId} {args : List Value} {R : Value → List HP → Prop} (p : Nat) [hp : PickR p L st L0] [he : Enters Tryz.prog g] (hx : argsL f xs.toList = some args) (hc : CallsS Tryz.prog g args (refH p st :: L0) R) (hk : ∀ v L', R v L' → opsS Tryz.prog n ops rest Q (upd f d v) L') :
    opsS Tryz.prog n ops (⟨some d, .call ⟨.value (.func g), xs, ats⟩, ty, pos, af, none⟩ :: rest) Q f L := opsS_ent hp.ent (S.cr hx hc hk)
end
theorem RRight_spec (a : Option Addr) (c : Nat) (xs : List Int) (A : List HP) (h : RdS A a xs.length 1 (xs.map I32)) (hn : xs.length ≤ 4611686018427387904) :
    CallsS Tryz.prog 57 [.slice a xs.length c] A (fun v L' => v = .bool (rightV xs) ∧ L' = A) := by
  refine CallsS.of_body Tryz.func57 rfl rfl rfl ?_
  unfold rightV
  repeat (first | (refine GQ.y ?_; refine Q.y ?_) | refine Q.go ?_ | (refine GQ.g ?_; refine Q.gq ?_) | (refine GQ.s ?_; refine Q.st ?_) | (refine GQ.g ?_; refine Q.gd ?_) | refine Q.ct rfl ?_ | refine Q.cf rfl ?_ | (refine GQ.a ?_; refine Q.al (fun b1 => ?_)))
  refine swp_loop (σ := Nat) (fun k => [(0, .slice a xs.length c), (5, .slice a xs.length c), (6, .int .i64 xs.length), (7, .int .i64 k)]) (fun _ => A)
    (fun k => k ≤ xs.length ∧ (xs.take k).any badC = false) (fun k => xs.length - k) 0 ⟨rfl, rfl, rfl, rfl, trivial⟩ (Ent.refl _) ⟨by omega, by simp⟩ ?_
  rintro k ⟨hk, hany⟩
  by_cases hlt : k < xs.length
  · obtain ⟨x, hx⟩ := mem_get hlt
    have hmx : x ∈ xs := List.mem_of_getElem? hx
    obtain ⟨b, o, rfl, hr⟩ := RdS.elem (g := cI) (l := xs) (fun _ => rfl) (by rw [flat_I]; exact h) hx rfl
    by_cases h1 : 268435456 < x
    · have hb : badC x = true := by simp [badC]; omega
      repeat (first | (refine GQ.y ?_; refine Q.y ?_) | refine Q.go ?_ | (refine GQ.g ?_; refine Q.gq ?_) | (refine GQ.s ?_; refine Q.st ?_) | (refine GQ.g ?_; refine Q.gd ?_) | refine Q.ct rfl ?_ | refine Q.cf rfl ?_ | (refine GQ.a ?_; refine Q.al (fun b1 => ?_)))
      exact N.r1 (RV.tmp rfl RV.nil) (Ent.refl _) ⟨by rw [show xs.any badC = true from List.any_eq_true.2 ⟨x, hmx, hb⟩]; simp, rfl⟩
    by_cases h2 : x < -268435456
    · have hb : badC x = true := by simp [badC]; omega
      repeat (first | (refine GQ.y ?_; refine Q.y ?_) | refine Q.go ?_ | (refine GQ.g ?_; refine Q.gq ?_) | (refine GQ.s ?_; refine Q.st ?_) | (refine GQ.g ?_; refine Q.gd ?_) | refine Q.ct rfl ?_ | refine Q.cf rfl ?_ | (refine GQ.a ?_; refine Q.al (fun b1 => ?_)))
      exact N.r1 (RV.tmp rfl RV.nil) (Ent.refl _) ⟨by rw [show xs.any badC = true from List.any_eq_true.2 ⟨x, hmx, hb⟩]; simp, rfl⟩
    · have hb : badC x = false := by simp [badC]; omega
      repeat (first | (refine GQ.y ?_; refine Q.y ?_) | refine Q.go ?_ | (refine GQ.g ?_; refine Q.gq ?_) | (refine GQ.s ?_; refine Q.st ?_) | (refine GQ.g ?_; refine Q.gd ?_) | refine Q.ct rfl ?_ | refine Q.cf rfl ?_ | (refine GQ.a ?_; refine Q.al (fun b1 => ?_)))
      exact ⟨k + 1, ⟨rfl, rfl, rfl, rfl, trivial⟩, Ent.refl _, ⟨by omega, by rw [take_snoc hx, List.any_append, hany, List.any_cons, hb]; rfl⟩, by omega⟩
  · have hke : k = xs.length := by omega
    subst hke
    rw [List.take_length] at hany
    rw [hany]
    by_cases h0 : 0 < xs.length
    · by_cases h8 : xs.length ≤ 8
      · repeat (first | (refine GQ.y ?_; refine Q.y ?_) | refine Q.go ?_ | (refine GQ.g ?_; refine Q.gq ?_) | (refine GQ.s ?_; refine Q.st ?_) | (refine GQ.g ?_; refine Q.gd ?_) | refine Q.ct rfl ?_ | refine Q.cf rfl ?_ | (refine GQ.a ?_; refine Q.al (fun b1 => ?_)))
        exact N.r1 (RV.tmp rfl RV.nil) (Ent.refl _) ⟨by simp [h0, h8]; try omega, rfl⟩
      · repeat (first | (refine GQ.y ?_; refine Q.y ?_) | refine Q.go ?_ | (refine GQ.g ?_; refine Q.gq ?_) | (refine GQ.s ?_; refine Q.st ?_) | (refine GQ.g ?_; refine Q.gd ?_) | refine Q.ct rfl ?_ | refine Q.cf rfl ?_ | (refine GQ.a ?_; refine Q.al (fun b1 => ?_)))
        exact N.r1 (RV.tmp rfl RV.nil) (Ent.refl _) ⟨by simp [h0, h8]; try omega, rfl⟩
    · repeat (first | (refine GQ.y ?_; refine Q.y ?_) | refine Q.go ?_ | (refine GQ.g ?_; refine Q.gq ?_) | (refine GQ.s ?_; refine Q.st ?_) | (refine GQ.g ?_; refine Q.gd ?_) | refine Q.ct rfl ?_ | refine Q.cf rfl ?_ | (refine GQ.a ?_; refine Q.al (fun b1 => ?_)))
      exact N.r1 (RV.tmp rfl RV.nil) (Ent.refl _) ⟨by simp [h0], rfl⟩
theorem RHolds_spec (i : IV) (id : Int) (A : List HP) (h : RdO A i.a i.ops) (hn : i.ops.length ≤ 1000000) :
    CallsS Tryz.prog 63 [i.val, .int .u64 id] A (fun v L' => v = .bool (holdsV (i.ops.map OV.abs) id) ∧ L' = A) := by
  rw [holds_abs]
  refine CallsS.of_body Tryz.func63 rfl rfl rfl ?_
  repeat (first | (refine GQ.y ?_; refine Q.y ?_) | refine Q.go ?_ | (refine GQ.g ?_; refine Q.gq ?_) | (refine GQ.s ?_; refine Q.st ?_) | (refine GQ.g ?_; refine Q.gd ?_) | refine Q.ct rfl ?_ | refine Q.cf rfl ?_ | (refine GQ.a ?_; refine Q.al (fun b1 => ?_)))
  refine swp_loop (σ := Nat) (fun k => [(1, .int .u64 id), (8, .slice i.a i.ops.length i.c), (9, .int .i64 i.ops.length), (10, .int .i64 k)]) (fun _ => A)
    (fun k => k ≤ i.ops.length ∧ (i.ops.take k).any (fun o => decide (o.id = id)) = false) (fun k => i.ops.length - k) 0 ⟨rfl, rfl, rfl, rfl, trivial⟩ (by repeat (first | exact Ent.refl _ | exact Ent.nil | refine Ent.pick ?_ | refine Ent.nilS ?_ | refine Ent.nilM ?_ | refine Ent.drop ?_)) ⟨by omega, by simp⟩ ?_
  rintro k ⟨hk, hany⟩
  by_cases hlt : k < i.ops.length
  · obtain ⟨o, ho⟩ := mem_get hlt
    have hmo : o ∈ i.ops := List.mem_of_getElem? ho
    obtain ⟨b, oo, hia, hr⟩ := RdS.elem (g := OV.cells) (fun _ => rfl) h.1 ho rfl
    rw [hia]
    by_cases he : o.id = id
    · repeat (first | (refine GQ.y ?_; refine Q.y ?_) | refine Q.go ?_ | (refine GQ.g ?_; refine Q.gq ?_) | (refine GQ.s ?_; refine Q.st ?_) | (refine GQ.g ?_; refine Q.gd ?_) | refine Q.ct rfl ?_ | refine Q.cf rfl ?_ | (refine GQ.a ?_; refine Q.al (fun b1 => ?_)))
      exact N.r1 (RV.tmp rfl RV.nil) (by repeat (first | exact Ent.refl _ | exact Ent.nil | refine Ent.pick ?_ | refine Ent.nilS ?_ | refine Ent.nilM ?_ | refine Ent.drop ?_)) ⟨by rw [show (i.ops.any fun o => decide (o.id = id)) = true from List.any_eq_true.2 ⟨o, hmo, decide_eq_true he⟩], rfl⟩
    · repeat (first | (refine GQ.y ?_; refine Q.y ?_) | refine Q.go ?_ | (refine GQ.g ?_; refine Q.gq ?_) | (refine GQ.s ?_; refine Q.st ?_) | (refine GQ.g ?_; refine Q.gd ?_) | refine Q.ct rfl ?_ | refine Q.cf rfl ?_ | (refine GQ.a ?_; refine Q.al (fun b1 => ?_)))
      exact ⟨k + 1, ⟨rfl, rfl, rfl, rfl, trivial⟩, by repeat (first | exact Ent.refl _ | exact Ent.nil | refine Ent.pick ?_ | refine Ent.nilS ?_ | refine Ent.nilM ?_ | refine Ent.drop ?_), ⟨by omega, by rw [take_snoc ho, List.any_append, hany, List.any_cons, decide_eq_false he]; rfl⟩, by omega⟩
  · have hke : k = i.ops.length := by omega
    subst hke
    rw [List.take_length] at hany
    rw [hany]
    repeat (first | (refine GQ.y ?_; refine Q.y ?_) | refine Q.go ?_ | (refine GQ.g ?_; refine Q.gq ?_) | (refine GQ.s ?_; refine Q.st ?_) | (refine GQ.g ?_; refine Q.gd ?_) | refine Q.ct rfl ?_ | refine Q.cf rfl ?_ | (refine GQ.a ?_; refine Q.al (fun b1 => ?_)))
    exact N.r1 (RV.tmp rfl RV.nil) (Ent.refl _) ⟨rfl, rfl⟩
theorem Find_spec (p : Nat) (dim : Int) (a : Option Addr) (es : List EV) (c : Nat) (a' : Option Addr) (is : List IV) (c' : Nat) (mark txn : Int) (M : Nat → Option Obj) (A : List HP) (h : SlM M a' is.length 3 (is.flatMap IV.cells)) (hn : is.length ≤ 1000000) :
    CallsS Tryz.prog 49 [ptrV p, .int .u64 txn] (rP p dim a es c a' is c' mark :: roM M :: A)
      (fun v L' => ((∃ (k : Nat) (i : IV), v = .int .i64 k ∧ is[k]? = some i ∧ i.txn = txn) ∨ (v = .int .i64 (-1) ∧ ∀ i ∈ is, i.txn ≠ txn)) ∧ L' = rP p dim a es c a' is c' mark :: roM M :: A) := by
  refine CallsS.of_body Tryz.func49 rfl rfl rfl ?_
  repeat (first | (refine GQ.y ?_; refine Q.y ?_) | refine Q.go ?_ | (refine GQ.g ?_; refine Q.gq ?_) | (refine GQ.s ?_; refine Q.st ?_) | (refine GQ.g ?_; refine Q.gd ?_) | refine Q.ct rfl ?_ | refine Q.cf rfl ?_ | (refine GQ.a ?_; refine Q.al (fun b1 => ?_)))
  refine swp_loop (σ := Nat) (fun k => [(1, .int .u64 txn), (10, .slice a' is.length c'), (11, .int .i64 is.length), (12, .int .i64 k)]) (fun _ => rP p dim a es c a' is c' mark :: roM M :: A)
    (fun k => k ≤ is.length ∧ ∀ i ∈ is.take k, i.txn ≠ txn) (fun k => is.length - k) 0 ⟨rfl, rfl, rfl, rfl, trivial⟩ (Ent.refl _) ⟨by omega, by simp⟩ ?_
  rintro k ⟨hk, hno⟩
  by_cases hlt : k < is.length
  · obtain ⟨i, hi⟩ := mem_get hlt
    have hrs : RdS (rP p dim a es c a' is c' mark :: roM M :: A) a' is.length 3 (is.flatMap IV.cells) := h.rd
    obtain ⟨b, oo, hia, hr⟩ := RdS.elem (g := IV.cells) (fun _ => rfl) hrs hi rfl
    clear hrs
    rw [hia] at hr ⊢
    by_cases he : i.txn = txn
    · repeat (first | (refine GQ.y ?_; refine Q.y ?_) | refine Q.go ?_ | (refine GQ.g ?_; refine Q.gq ?_) | (refine GQ.s ?_; refine Q.st ?_) | (refine GQ.g ?_; refine Q.gd ?_) | refine Q.ct rfl ?_ | refine Q.cf rfl ?_ | (refine GQ.a ?_; refine Q.al (fun b1 => ?_)))
      exact N.r1 (RV.tmp rfl RV.nil) (by repeat (first | exact Ent.refl _ | exact Ent.nil | refine Ent.pick ?_ | refine Ent.nilS ?_ | refine Ent.nilM ?_ | refine Ent.drop ?_)) ⟨.inl ⟨k, i, rfl, hi, he⟩, rfl⟩
    · repeat (first | (refine GQ.y ?_; refine Q.y ?_) | refine Q.go ?_ | (refine GQ.g ?_; refine Q.gq ?_) | (refine GQ.s ?_; refine Q.st ?_) | (refine GQ.g ?_; refine Q.gd ?_) | refine Q.ct rfl ?_ | refine Q.cf rfl ?_ | (refine GQ.a ?_; refine Q.al (fun b1 => ?_)))
      refine ⟨k + 1, ⟨rfl, rfl, rfl, rfl, trivial⟩, by repeat (first | exact Ent.refl _ | exact Ent.nil | refine Ent.pick ?_ | refine Ent.nilS ?_ | refine Ent.nilM ?_ | refine Ent.drop ?_), ⟨by omega, ?_⟩, by omega⟩
      rw [take_snoc hi]
      intro j hj
      rcases List.mem_append.1 hj with hj | hj
      · exact hno j hj
      · obtain rfl := List.mem_singleton.1 hj
        exact he
  · have hke : k = is.length := by omega
    subst hke
    rw [List.take_length] at hno
    repeat (first | (refine GQ.y ?_; refine Q.y ?_) | refine Q.go ?_ | (refine GQ.g ?_; refine Q.gq ?_) | (refine GQ.s ?_; refine Q.st ?_) | (refine GQ.g ?_; refine Q.gd ?_) | refine Q.ct rfl ?_ | refine Q.cf rfl ?_ | (refine GQ.a ?_; refine Q.al (fun b1 => ?_)))
    exact N.r1 (RV.tmp rfl RV.nil) (Ent.refl _) ⟨.inr ⟨rfl, hno⟩, rfl⟩
theorem Rlast_spec (a : Option Addr) (c : Nat) (vs : List OV) (A : List HP) (h : RdS A a vs.length 2 (vs.flatMap OV.cells)) (hn : vs.length ≤ 1000000) :
    CallsS Tryz.prog 58 [.slice a vs.length c] A (fun v L' => v = .int .u64 (lastS (vs.map OV.abs)) ∧ L' = A) := by
  refine CallsS.of_body Tryz.func58 rfl rfl rfl ?_
  by_cases h0 : vs.length = 0
  · repeat (first | (refine GQ.y ?_; refine Q.y ?_) | refine Q.go ?_ | (refine GQ.g ?_; refine Q.gq ?_) | (refine GQ.s ?_; refine Q.st ?_) | (refine GQ.g ?_; refine Q.gd ?_) | refine Q.ct rfl ?_ | refine Q.cf rfl ?_ | (refine GQ.a ?_; refine Q.al (fun b1 => ?_)))
    have : vs = [] := List.eq_nil_of_length_eq_zero h0
    subst this
    exact N.r1 (RV.tmp rfl RV.nil) (Ent.refl _) ⟨rfl, rfl⟩
  · obtain ⟨o, ho⟩ := mem_get (l := vs) (k := vs.length - 1) (by omega)
    obtain ⟨b, oo, hia, hr⟩ := RdS.elem (g := OV.cells) (fun _ => rfl) h ho rfl
    rw [hia]
    repeat (first | refine S.y (Y.ldRj rfl (by first | assumption | exact RdC.sub (by assumption)) rfl) ?_ | refine Q.yn ?_ | refine S.stI rfl rfl (by first | omega | (rw [Array.size_setIfInBounds]; omega)) ?_ | (refine GQ.y ?_; refine Q.y ?_) | refine Q.go ?_ | (refine GQ.g ?_; refine Q.gq ?_) | (refine GQ.s ?_; refine Q.st ?_) | (refine GQ.g ?_; refine Q.gd ?_) | refine Q.ct rfl ?_ | refine Q.cf rfl ?_ | (refine GQ.a ?_; refine Q.al (fun b1 => ?_)))
    have hl : lastS (vs.map OV.abs) = o.id := by
      unfold lastS
      rw [List.getLast?_eq_getElem?, List.length_map, List.getElem?_map, ho]; rfl
    rw [hl]
    exact N.r1 (RV.tmp rfl RV.nil) (Ent.refl _) ⟨rfl, rfl⟩
theorem RChain_spec (p : Nat) (dim : Int) (a : Option Addr) (es : List EV) (c : Nat) (a' : Option Addr) (is : List IV) (c' : Nat) (mark id : Int) (M : Nat → Option Obj) (A : List HP) (h : SlM M a es.length 2 (es.flatMap EV.cells)) (hn : es.length ≤ 1000000) :
    CallsS Tryz.prog 23 [ptrV p, .int .u64 id] (rP p dim a es c a' is c' mark :: roM M :: A)
      (fun v L' => ((∃ e ∈ es, e.id = id ∧ v = .slice e.a e.vs.length e.c) ∨ (v = .slice none 0 0 ∧ ∀ e ∈ es, e.id ≠ id)) ∧ L' = rP p dim a es c a' is c' mark :: roM M :: A) := by
  refine CallsS.of_body Tryz.func23 rfl rfl rfl ?_
  repeat (first | (refine GQ.y ?_; refine Q.y ?_) | refine Q.go ?_ | (refine GQ.g ?_; refine Q.gq ?_) | (refine GQ.s ?_; refine Q.st ?_) | (refine GQ.g ?_; refine Q.gd ?_) | refine Q.ct rfl ?_ | refine Q.cf rfl ?_ | (refine GQ.a ?_; refine Q.al (fun b1 => ?_)))
  refine swp_loop (σ := Nat) (fun k => [(1, .int .u64 id), (10, .slice a es.length c), (11, .int .i64 es.length), (12, .int .i64 k)]) (fun _ => rP p dim a es c a' is c' mark :: roM M :: A)
    (fun k => k ≤ es.length ∧ ∀ i ∈ es.take k, i.id ≠ id) (fun k => es.length - k) 0 ⟨rfl, rfl, rfl, rfl, trivial⟩ (Ent.refl _) ⟨by omega, by simp⟩ ?_
  rintro k ⟨hk, hno⟩
  by_cases hlt : k < es.length
  · obtain ⟨i, hi⟩ := mem_get hlt
    have hrs : RdS (rP p dim a es c a' is c' mark :: roM M :: A) a es.length 2 (es.flatMap EV.cells) := h.rd
    obtain ⟨b, oo, hia, hr⟩ := RdS.elem (g := EV.cells) (fun _ => rfl) hrs hi rfl
    clear hrs
    rw [hia] at hr ⊢
    by_cases he : i.id = id
    · repeat (first | (refine GQ.y ?_; refine Q.y ?_) | refine Q.go ?_ | (refine GQ.g ?_; refine Q.gq ?_) | (refine GQ.s ?_; refine Q.st ?_) | (refine GQ.g ?_; refine Q.gd ?_) | refine Q.ct rfl ?_ | refine Q.cf rfl ?_ | (refine GQ.a ?_; refine Q.al (fun b1 => ?_)))
      exact N.r1 (RV.tmp rfl RV.nil) (by repeat (first | exact Ent.refl _ | exact Ent.nil | refine Ent.pick ?_ | refine Ent.nilS ?_ | refine Ent.nilM ?_ | refine Ent.drop ?_)) ⟨.inl ⟨i, List.mem_of_getElem? hi, he, rfl⟩, rfl⟩
    · repeat (first | (refine GQ.y ?_; refine Q.y ?_) | refine Q.go ?_ | (refine GQ.g ?_; refine Q.gq ?_) | (refine GQ.s ?_; refine Q.st ?_) | (refine GQ.g ?_; refine Q.gd ?_) | refine Q.ct rfl ?_ | refine Q.cf rfl ?_ | (refine GQ.a ?_; refine Q.al (fun b1 => ?_)))
      refine ⟨k + 1, ⟨rfl, rfl, rfl, rfl, trivial⟩, by repeat (first | exact Ent.refl _ | exact Ent.nil | refine Ent.pick ?_ | refine Ent.nilS ?_ | refine Ent.nilM ?_ | refine Ent.drop ?_), ⟨by omega, ?_⟩, by omega⟩
      rw [take_snoc hi]
      intro j hj
      rcases List.mem_append.1 hj with hj | hj
      · exact hno j hj
      · obtain rfl := List.mem_singleton.1 hj
        exact he
  · have hke : k = es.length := by omega
    subst hke
    rw [List.take_length] at hno
    repeat (first | (refine GQ.y ?_; refine Q.y ?_) | refine Q.go ?_ | (refine GQ.g ?_; refine Q.gq ?_) | (refine GQ.s ?_; refine Q.st ?_) | (refine GQ.g ?_; refine Q.gd ?_) | refine Q.ct rfl ?_ | refine Q.cf rfl ?_ | (refine GQ.a ?_; refine Q.al (fun b1 => ?_)))
    exact N.r1 (RV.tmp rfl RV.nil) (Ent.refl _) ⟨.inr ⟨rfl, hno⟩, rfl⟩
end Go.Proofs.YtieejgbjgcbbjaaGreat
/- The ref's vault: Free, SameOps, Check. No condition. -/
namespace Go.Proofs.YtieejgbjgcbbjaaGreat
open Go Go.SX
attribute [local irreducible] swp opsS thenS blockS retS CallsS St Ent YieldS anyS drawS
theorem flat_take {α : Type} {g : α → List Value} {sz : Nat} (hg : ∀ x, (g x).length = sz) : ∀ (l : List α) (k : Nat), (l.flatMap g).take (k * sz) = (l.take k).flatMap g
  | [], k => by simp
  | x :: l, 0 => by simp
  | x :: l, k + 1 => by
    rw [List.flatMap_cons, List.take_succ_cons, List.flatMap_cons, ← flat_take hg l k, Nat.add_mul, Nat.one_mul, Nat.add_comm, ← hg x, List.take_length_add_append]
theorem flat_drop {α : Type} {g : α → List Value} {sz : Nat} (hg : ∀ x, (g x).length = sz) : ∀ (l : List α) (k : Nat), (l.flatMap g).drop (k * sz) = (l.drop k).flatMap g
  | [], k => by simp
  | x :: l, 0 => by simp
  | x :: l, k + 1 => by
    rw [List.flatMap_cons, List.drop_succ_cons, ← flat_drop hg l k, Nat.add_mul, Nat.one_mul, Nat.add_comm, ← hg x, List.drop_length_add_append]
theorem IV_one (xs : List IV) : (xs.flatMap IV.cells).all (·.oneCell') = true := by simp [Value.oneCell']
theorem EV_one (xs : List EV) : (xs.flatMap EV.cells).all (·.oneCell') = true := by simp [Value.oneCell']
theorem erase_filter {α : Type} (key : α → Int) : ∀ {l : List α} {k : Nat} {i : α}, (l.map key).Pairwise (· < ·) → l[k]? = some i → l.eraseIdx k = l.filter fun j => !decide (key j = key i)
  | [], _, _, _, h => by simp at h
  | x :: l, 0, i, hs, h => by
    simp only [List.getElem?_cons_zero, Option.some.injEq] at h
    subst h
    rw [List.map_cons, List.pairwise_cons] at hs
    rw [List.eraseIdx_cons_zero, List.filter_cons]
    simp only [decide_true, Bool.not_true, Bool.false_eq_true, if_false]
    symm
    rw [List.filter_eq_self]
    intro y hy
    have := hs.1 (key y) (List.mem_map_of_mem hy)
    simp; omega
  | x :: l, k + 1, i, hs, h => by
    rw [List.getElem?_cons_succ] at h
    rw [List.map_cons, List.pairwise_cons] at hs
    have := hs.1 (key i) (List.mem_map_of_mem (List.mem_of_getElem? h))
    rw [List.eraseIdx_cons_succ, List.filter_cons, if_pos (by simp; omega), erase_filter key hs.2 h]
theorem lkL_iff {κ α : Type} [DecidableEq κ] {m : List (κ × α)} (h : keysOK m) {x : κ} {a : α} : lkL m x = some a ↔ (x, a) ∈ m := by
  refine ⟨lk_memL, fun hm => ?_⟩
  rcases keyCase m h x with ⟨p, b, q, rfl, hp, hq⟩ | hn
  · rw [lkL_mid hp]
    rcases List.mem_append.1 hm with hm | hm
    · exact absurd rfl (hp _ hm)
    rcases List.mem_cons.1 hm with hm | hm
    · cases hm; rfl
    · exact absurd rfl (hq _ hm)
  · exact absurd rfl (hn _ hm)
theorem keys_perm {κ α : Type} [DecidableEq κ] {m m' : List (κ × α)} (h : keysOK m) (hp : m'.Perm m) : keysOK m' := (hp.map (fun u : κ × α => u.1)).nodup_iff.2 h
theorem lkL_perm {κ α : Type} [DecidableEq κ] {m m' : List (κ × α)} (h : keysOK m) (hp : m'.Perm m) (x : κ) : lkL m' x = lkL m x := by
  apply Option.ext
  intro a
  rw [lkL_iff (keys_perm h hp), lkL_iff h, hp.mem_iff]
theorem pw_filter {α : Type} {key : α → Int} {l : List α} (h : (l.map key).Pairwise (· < ·)) (p : α → Bool) : ((l.filter p).map key).Pairwise (· < ·) := by
  rw [List.pairwise_map] at h ⊢
  exact h.filter p
theorem ROK.del {M : Nat → Option Obj} {st : VS} {a a' : Option Addr} {c c' : Nat} {es : List EV} {is : List IV} (h : ROK M st a c es a' c' is) {M2 : Nat → Option Obj} (hl : leM M M2) {a2 : Option Addr} {c2 : Nat} (t : Int)
    (hs : SlM M2 a2 (is.filter fun j => !decide (j.txn = t)).length 3 ((is.filter fun j => !decide (j.txn = t)).flatMap IV.cells)) (hc : (is.filter fun j => !decide (j.txn = t)).length ≤ c2) : ROK M2 { st with its := delL st.its t } a c es a2 c2 (is.filter fun j => !decide (j.txn = t)) := by
  refine ⟨h.ch, h.cs, ?_, pw_filter h.ss _, fun e he => (h.oe e he).mono hl, fun i hi => (h.oi i (List.mem_filter.1 hi).1).mono hl, h.sE.mono hl, hs, h.cE, hc, h.k1, delL_ok h.k2 t, fun i hi => h.oc i (List.mem_filter.1 hi).1⟩
  have := h.its.filter (fun u => !decide (u.1 = t))
  rw [List.filter_map] at this
  exact this
theorem ROK.noT {M : Nat → Option Obj} {st : VS} {a a' : Option Addr} {c c' : Nat} {es : List EV} {is : List IV} (h : ROK M st a c es a' c' is) {t : Int} (hn : ∀ i ∈ is, i.txn ≠ t) : lkL st.its t = none := by
  rw [← lkL_perm h.k2 h.its]
  exact lkL_none fun u hu => by obtain ⟨w, hw, rfl⟩ := List.mem_map.1 hu; exact hn w hw
theorem ROK.hasT {M : Nat → Option Obj} {st : VS} {a a' : Option Addr} {c c' : Nat} {es : List EV} {is : List IV} (h : ROK M st a c es a' c' is) {k : Nat} {i : IV} (hi : is[k]? = some i) : lkL st.its i.txn = some (i.after, i.ops.map OV.abs) := by
  rw [← lkL_perm h.k2 h.its]
  exact (lkL_iff (keys_perm h.k2 h.its)).2 (List.mem_map_of_mem (f := IV.abs) (List.mem_of_getElem? hi))
theorem ROK.len {M : Nat → Option Obj} {st : VS} {a a' : Option Addr} {c c' : Nat} {es : List EV} {is : List IV} (h : ROK M st a c es a' c' is) : is.length = st.its.length ∧ es.length = st.ch.length := by
  have h1 := h.its.length_eq
  have h2 := h.ch.length_eq
  simp at h1 h2
  exact ⟨h1, h2⟩
set_option maxHeartbeats 1000000 in
theorem RFree_spec (p : Nat) (st : VS) (txn : Int) (L : List HP) (hn : st.its.length ≤ 1000000) :
    CallsS Tryz.prog 14 [ptrV p, .int .u64 txn] (refH p st :: L) (fun r L' => r = .int .i64 (if (lkL st.its txn).isSome then 0 else 6) ∧ L' = refH p { st with its := delL st.its txn } :: L) := by
  refine calls_ref fun M a c es a' c' is hok => ?_
  have hil : is.length ≤ 1000000 := by rw [hok.len.1]; exact hn
  refine CallsS.of_body Tryz.func14 rfl rfl rfl ?_
  repeat (first | (refine GQ.y ?_; refine Q.y ?_) | refine Q.go ?_ | (refine GQ.g ?_; refine Q.gq ?_) | (refine GQ.s ?_; refine Q.st ?_) | (refine GQ.g ?_; refine Q.gd ?_) | refine Q.ct rfl ?_ | refine Q.cf rfl ?_ | (refine GQ.a ?_; refine Q.al (fun b1 => ?_)))
  refine S.cr rfl (Find_spec p st.dim a es c a' is c' st.mark txn M L hok.sI (by omega)) ?_
  rintro _ _ ⟨⟨k, i, rfl, hi, rfl⟩ | ⟨rfl, hno⟩, rfl⟩
  · rw [hok.hasT hi]
    have hik : k < is.length := (List.getElem?_eq_some_iff.1 hi).1
    have hrs : RdS (rP p st.dim a es c a' is c' st.mark :: roM M :: L) a' is.length 3 (is.flatMap IV.cells) := hok.sI.rd
    obtain ⟨b2, o2, hia, hr⟩ := RdS.elem (g := IV.cells) (fun _ => rfl) hrs hi rfl
    subst hia
    clear hr hrs
    have hcI := hok.cI
    repeat (first | (refine GQ.y ?_; refine Q.y ?_) | refine Q.go ?_ | (refine GQ.g ?_; refine Q.gq ?_) | (refine GQ.s ?_; refine Q.st ?_) | (refine GQ.g ?_; refine Q.gd ?_) | refine Q.ct rfl ?_ | refine Q.cf rfl ?_ | (refine GQ.a ?_; refine Q.al (fun b1 => ?_)))
    refine Q.dgo [true, false] [1, 8, 16, 19] [19] [0, 2, 3, 4, 5, 6, 7, 9, 10, 11, 12, 13, 14, 15, 1, 8, 16, 17, 18, 19] ?_
    repeat (first | refine D.endA ?_ | refine Q.dy rfl rfl rfl ?_ | refine Q.dp rfl rfl rfl ?_ | refine D.end_ ?_ | refine Q.endH ?_ | (refine D.e rfl rfl rfl ?_; (first | refine S.gskip1 rfl ?_ | refine S.gskip rfl ?_ | refine S.y (Y.gskipU rfl) ?_); refine opsS_nil ?_; refine N.tn ?_) | refine Q.dT rfl rfl rfl ?_ | refine Q.dF rfl rfl rfl ?_)
    refine D.yp rfl rfl rfl (Y.slT (h := k) rfl rfl rfl (by omega)) ?_
    repeat (first | refine D.endA ?_ | refine Q.dy rfl rfl rfl ?_ | refine Q.dp rfl rfl rfl ?_ | refine D.end_ ?_ | refine Q.endH ?_ | (refine D.e rfl rfl rfl ?_; (first | refine S.gskip1 rfl ?_ | refine S.gskip rfl ?_ | refine S.y (Y.gskipU rfl) ?_); refine opsS_nil ?_; refine N.tn ?_) | refine Q.dT rfl rfl rfl ?_ | refine Q.dF rfl rfl rfl ?_)
    refine D.yp rfl rfl rfl (Y.slF (l := k + 1) rfl rfl (by simp) (by omega)) ?_
    refine D.e rfl rfl rfl ?_
    refine S.bs rfl rfl rfl rfl rfl (fun b => ?_)
    refine opsS_ent (slO_fold (sz := 3) (m := 0) rfl) ?_
    repeat (first | (refine GQ.y ?_; refine Q.y ?_) | refine Q.go ?_ | (refine GQ.g ?_; refine Q.gq ?_) | (refine GQ.s ?_; refine Q.st ?_))
    refine D.e rfl rfl rfl ?_
    have hrd : ∀ L, HasM M L → RdS L (some ⟨b2, o2, none⟩) is.length 3 (is.flatMap IV.cells) := fun L _ => hok.sI.rd
    refine S.app0 rfl rfl rfl (SrcS.rd (RdS.take (k := k) (hrd _ inferInstance) (by omega)) ?_) (by rfl) (by omega) (by omega) (fun a5 c5 => ?_)
    · rw [flat_take (sz := 3) (fun _ => rfl)]; exact IV_one _
    repeat (first | (refine GQ.y ?_; refine Q.y ?_) | refine Q.go ?_ | (refine GQ.g ?_; refine Q.gq ?_) | (refine GQ.s ?_; refine Q.st ?_))
    refine D.e rfl rfl rfl ?_
    refine S.app rfl rfl (SrcS.rd (RdS.from2 (l := k + 1) (hrd _ inferInstance) (by omega) hcI) ?_) (by rfl) (by omega) (by omega) (fun a6 c6 => ?_)
    · rw [flat_drop (sz := 3) (fun _ => rfl)]; exact IV_one _
    repeat (first | (refine GQ.y ?_; refine Q.y ?_) | refine Q.go ?_ | (refine GQ.g ?_; refine Q.gq ?_) | (refine GQ.s ?_; refine Q.st ?_))
    repeat (first | refine D.endA ?_ | refine Q.dy rfl rfl rfl ?_ | refine Q.dp rfl rfl rfl ?_ | refine D.end_ ?_ | refine Q.endH ?_ | (refine D.e rfl rfl rfl ?_; (first | refine S.gskip1 rfl ?_ | refine S.gskip rfl ?_ | refine S.y (Y.gskipU rfl) ?_); refine opsS_nil ?_; refine N.tn ?_) | refine Q.dT rfl rfl rfl ?_ | refine Q.dF rfl rfl rfl ?_)
    refine Q.dc rfl rfl rfl rfl ?_
    repeat (first | (refine GQ.y ?_; refine Q.y ?_) | refine Q.go ?_ | (refine GQ.g ?_; refine Q.gq ?_) | (refine GQ.s ?_; refine Q.st ?_))
    repeat (first | refine D.endA ?_ | refine Q.dy rfl rfl rfl ?_ | refine Q.dp rfl rfl rfl ?_ | refine D.end_ ?_ | refine Q.endH ?_ | (refine D.e rfl rfl rfl ?_; (first | refine S.gskip1 rfl ?_ | refine S.gskip rfl ?_ | refine S.y (Y.gskipU rfl) ?_); refine opsS_nil ?_; refine N.tn ?_) | refine Q.dT rfl rfl rfl ?_ | refine Q.dF rfl rfl rfl ?_)
    first | refine N.tn ?_ | skip
    refine swp_cap a6 fun hc6 => swp_abs a6 fun M2 hle hsl => ?_
    repeat (first | (refine GQ.y ?_; refine Q.y ?_) | refine Q.go ?_ | (refine GQ.g ?_; refine Q.gq ?_) | (refine GQ.s ?_; refine Q.st ?_))
    rw [flat_take (sz := 3) (fun _ => rfl), flat_drop (sz := 3) (fun _ => rfl), ← List.flatMap_append, ← List.eraseIdx_eq_take_drop_succ] at hsl
    have hel := List.length_eraseIdx_of_lt (l := is) (i := k) (by omega)
    have e1 : k + (is.length - (k + 1)) = (is.eraseIdx k).length := by omega
    rw [e1] at hsl hc6 ⊢
    rw [erase_filter (·.txn) hok.ss hi] at hsl hc6 ⊢
    refine N.r1 (RV.tmp rfl RV.nil) ?_ ⟨rfl, rfl⟩
    refine Ent.trans ?_ (ref_shut (hok.del hle i.txn hsl hc6))
    repeat (first | exact Ent.refl _ | exact Ent.nil | refine Ent.pick ?_ | refine Ent.nilS ?_ | refine Ent.nilM ?_ | refine Ent.drop ?_)
  · have hl := hok.noT hno
    rw [hl]
    have e : delL st.its txn = st.its := delL_none (lk_none' hl)
    rw [e]
    repeat (first | (refine GQ.y ?_; refine Q.y ?_) | refine Q.go ?_ | (refine GQ.g ?_; refine Q.gq ?_) | (refine GQ.s ?_; refine Q.st ?_) | (refine GQ.g ?_; refine Q.gd ?_) | refine Q.ct rfl ?_ | refine Q.cf rfl ?_ | (refine GQ.a ?_; refine Q.al (fun b1 => ?_)))
    exact N.r1 (RV.tmp rfl RV.nil) (ref_shut hok) ⟨rfl, rfl⟩
end Go.Proofs.YtieejgbjgcbbjaaGreat
