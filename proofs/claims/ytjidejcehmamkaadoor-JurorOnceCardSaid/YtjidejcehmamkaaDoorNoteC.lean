/- Notes: as they lie; sorted, held. No condition. -/
import Derived.Test.YtjidejcehmamkaaDoorVtA
set_option linter.unusedVariables false
set_option linter.unusedSimpArgs false
namespace Go.Proofs.YtjidejcehmamkaaDoor
open Go Go.SX
attribute [local irreducible] swp opsS thenS blockS retS CallsS St Ent YieldS anyS drawS
structure HV where
  id : Int
  dist : Int
  a : Option Addr
  c : Nat
  vec : List Int
abbrev HV.cells (h : HV) : List Value := [.int .u64 h.id, .int .u64 h.dist, .slice h.a h.vec.length h.c]
abbrev I64 : Int → Value := Value.int .i64
abbrev HV.val (h : HV) : Value := .agg #[.int .u64 h.id, .int .u64 h.dist, .slice h.a h.vec.length h.c]
abbrev HV.abs (h : HV) : Int × Int × List Int := (h.id, h.dist, h.vec)
structure NV where
  kind : Int
  txn : Int
  batch : Int
  stamp : Int
  after : Int
  mark : Int
  query : Int
  id : Int
  k : Int
  ef : Int
  code : Int
  who : Int
  pa : Option Addr
  pc : Nat
  parts : List Int
  oa : Option Addr
  oc : Nat
  ops : List OV
  va : Option Addr
  vc : Nat
  vec : List Int
  ha : Option Addr
  hc : Nat
  hits : List HV
abbrev NV.cells (n : NV) : List Value := [.int .u8 n.kind, .int .u64 n.txn, .int .u64 n.batch, .int .u64 n.stamp, .int .u64 n.after, .int .u64 n.mark, .int .u64 n.query, .int .u64 n.id, .int .i64 n.k, .int .i64 n.ef, .int .i64 n.code, .int .i64 n.who,
  .slice n.pa n.parts.length n.pc, .slice n.oa n.ops.length n.oc, .slice n.va n.vec.length n.vc, .slice n.ha n.hits.length n.hc]
abbrev NV.val (n : NV) : Value := .agg #[.int .u8 n.kind, .int .u64 n.txn, .int .u64 n.batch, .int .u64 n.stamp, .int .u64 n.after, .int .u64 n.mark, .int .u64 n.query, .int .u64 n.id, .int .i64 n.k, .int .i64 n.ef, .int .i64 n.code, .int .i64 n.who,
  .slice n.pa n.parts.length n.pc, .slice n.oa n.ops.length n.oc, .slice n.va n.vec.length n.vc, .slice n.ha n.hits.length n.hc]
def NV.bits (n : NV) : List Bool := [decide (0 < n.txn), decide (0 < n.batch), decide (0 < n.stamp), decide (0 < n.after), decide (0 < n.mark), decide (0 < n.query), decide (0 < n.id), !decide (n.k = 0), !decide (n.ef = 0), !decide (n.code = 0), !decide (n.who = 0), decide (0 < (n.parts.length : Int)), decide (0 < (n.ops.length : Int)), decide (0 < (n.vec.length : Int)), decide (0 < (n.hits.length : Int))]
structure NA where
  kind : Int
  txn : Int
  batch : Int
  stamp : Int
  after : Int
  mark : Int
  query : Int
  id : Int
  k : Int
  ef : Int
  code : Int
  who : Int
  parts : List Int
  ops : VL
  vec : List Int
  hits : List (Int × Int × List Int)
abbrev NA.zero : NA := ⟨0, 0, 0, 0, 0, 0, 0, 0, 0, 0, 0, 0, [], [], [], []⟩
def NA.bits (n : NA) : List Bool := [decide (0 < n.txn), decide (0 < n.batch), decide (0 < n.stamp), decide (0 < n.after), decide (0 < n.mark), decide (0 < n.query), decide (0 < n.id), !decide (n.k = 0), !decide (n.ef = 0), !decide (n.code = 0), !decide (n.who = 0), decide (0 < (n.parts.length : Int)), decide (0 < (n.ops.length : Int)), decide (0 < (n.vec.length : Int)), decide (0 < (n.hits.length : Int))]
def fldN : Nat → Nat
  | 1 => 4098 | 2 => 518 | 3 => 6153 | 4 => 513 | 5 => 517 | 6 => 1 | 7 => 1 | 8 => 8672 | 9 => 8692 | 10 => 16928 | 11 => 16932 | 12 => 6153 | 13 => 5 | 14 => 1 | 15 => 16 | 16 => 16 | 17 => 2055 | 18 => 1 | 19 => 7179 | 20 => 1025 | 21 => 1025 | 22 => 1 | _ => 0
def bareV (v : List Int) : Bool := decide (v.length = 0) || rightV v
def badOp (o : Int × List Int) : Bool := decide (1099511627776 < o.1) || !bareV o.2
def badHit (h : Int × Int × List Int) : Bool := decide (1099511627776 < h.1) || !rightV h.2.2
def okP (l : List Int) (k : Nat) : Bool := decide (0 ≤ l.getD k 0) && decide (l.getD k 0 < 16) && (decide (k = 0) || decide (l.getD (k - 1) 0 < l.getD k 0))
def partsV (l : List Int) : Bool := (List.range l.length).all (okP l)
def boundN (n : NA) : Bool :=
  !(decide (1099511627776 < max (max n.stamp n.after) n.mark) || decide (1099511627776 < n.id) || decide (min (min (min n.k n.ef) n.who) n.code < 0) || decide (16 < n.k) || decide (256 < n.ef) || decide (16 ≤ n.who) || decide (13 < n.code)) &&
  !(decide (4 < n.parts.length) || decide (16 < n.ops.length) || decide (16 < n.hits.length) || !bareV n.vec) && partsV n.parts && !n.ops.any badOp && !n.hits.any badHit
def rightN (n : NA) : Bool := decide (1 ≤ n.kind ∧ n.kind ≤ 22) && (n.bits.zipIdx.all fun b => !b.1 || (fldN n.kind.toNat).testBit b.2) && boundN n
abbrev NV.abs (n : NV) : NA := ⟨n.kind, n.txn, n.batch, n.stamp, n.after, n.mark, n.query, n.id, n.k, n.ef, n.code, n.who, n.parts, n.ops.map OV.abs, n.vec, n.hits.map HV.abs⟩
theorem NV.bits_abs (n : NV) : n.abs.bits = n.bits := by unfold NA.bits NV.bits; simp
structure RdN (A : List HP) (n : NV) : Prop where
  p : RdS A n.pa n.parts.length 1 (n.parts.map I64)
  o : RdO A n.oa n.ops
  v : RdS A n.va n.vec.length 1 (n.vec.map I32)
  h : RdS A n.ha n.hits.length 3 (n.hits.flatMap HV.cells)
  hv : ∀ h ∈ n.hits, RdS A h.a h.vec.length 1 (h.vec.map I32)
theorem RdN.sub {A L : List HP} {n : NV} (h : RdN A n) [s : Sub A L] : RdN L n := ⟨h.p.sub, h.o.sub, h.v.sub, h.h.sub, fun x hx => (h.hv x hx).sub⟩
structure OkN (n : NV) : Prop where
  p : n.parts.length ≤ 1000000
  o : n.ops.length ≤ 1000000
  ov : ∀ o ∈ n.ops, o.vec.length ≤ 1000000
  v : n.vec.length ≤ 1000000
  h : n.hits.length ≤ 1000000
  hv : ∀ h ∈ n.hits, h.vec.length ≤ 1000000
def bitsN : List Bool → Nat
  | [] => 0
  | b :: l => (if b then 1 else 0) + 2 * bitsN l
theorem fit15 (b0 b1 b2 b3 b4 b5 b6 b7 b8 b9 b10 b11 b12 b13 b14 : Bool) : fitsL (rowL 1 15) (15 * 1) (cellsOf [(0, Value.bool b0), (1, Value.bool b1), (2, Value.bool b2), (3, Value.bool b3), (4, Value.bool b4), (5, Value.bool b5), (6, Value.bool b6), (7, Value.bool b7), (8, Value.bool b8), (9, Value.bool b9), (10, Value.bool b10), (11, Value.bool b11), (12, Value.bool b12), (13, Value.bool b13), (14, Value.bool b14)]) = true := by rfl
theorem fill15 (b0 b1 b2 b3 b4 b5 b6 b7 b8 b9 b10 b11 b12 b13 b14 : Bool) : fillL (rowL 1 15) [Value.bool false, Value.bool false, Value.bool false, Value.bool false, Value.bool false, Value.bool false, Value.bool false, Value.bool false, Value.bool false, Value.bool false, Value.bool false, Value.bool false, Value.bool false, Value.bool false, Value.bool false] (cellsOf [(0, Value.bool b0), (1, Value.bool b1), (2, Value.bool b2), (3, Value.bool b3), (4, Value.bool b4), (5, Value.bool b5), (6, Value.bool b6), (7, Value.bool b7), (8, Value.bool b8), (9, Value.bool b9), (10, Value.bool b10), (11, Value.bool b11), (12, Value.bool b12), (13, Value.bool b13), (14, Value.bool b14)]) = [Value.bool b0, Value.bool b1, Value.bool b2, Value.bool b3, Value.bool b4, Value.bool b5, Value.bool b6, Value.bool b7, Value.bool b8, Value.bool b9, Value.bool b10, Value.bool b11, Value.bool b12, Value.bool b13, Value.bool b14] := by kernel_rfl
section
variable {P : Program} {n : Nat} {ops : List Oper} {f : Env} {A : List HP} {d : Tmp} {ty : TypeId} {pos : String} {af : Array Edge}
theorem Y.ixa {x y : Operand} {t e : TypeId} {len bts i : Nat} {k : IntKind} {zs : List Value} {cs : Array Value} {v : Value} [h : ArrTy P t len e] [h2 : Ty P e false 1 zs bts] (hx : ev f x = some (.agg cs)) (hy : ev f y = some (.int k (i : Int))) (hi : i < len) (hv : cs[i]? = some v) :
    YieldS P n ops ⟨some d, .index t x y, ty, pos, af, none⟩ f A v :=
  Y.of (fun _ w s => by
    have e1 : (0 : Int) ≤ (i : Int) ∧ (i : Int) < (len : Int) := ⟨by omega, by omega⟩
    simp [execOp, s.eval hx, s.eval hy, Instr.index, asIntOf, h.und, e1, part, h2.agg, h2.size, hv, hi])
theorem Y.or {x y : Operand} {t t' : TypeId} {k : IntKind} {a b : Int} (hx : ev f x = some (.int k a)) (hy : ev f y = some (.int k b)) : YieldS P n ops ⟨some d, .binOp .or t x y t', ty, pos, af, none⟩ f A ((.int k (k.wrap ((BitVec.ofInt k.bits a) ||| (BitVec.ofInt k.bits b)).toNat))) :=  Y.of (fun _ w s => by simp [execOp, s.eval hx, s.eval hy, eqGuard, binOp, Op.intBits])
theorem Y.andNot {x y : Operand} {t t' : TypeId} {k : IntKind} {a b : Int} (hx : ev f x = some (.int k a)) (hy : ev f y = some (.int k b)) : YieldS P n ops ⟨some d, .binOp .andNot t x y t', ty, pos, af, none⟩ f A ((.int k (k.wrap ((BitVec.ofInt k.bits a) &&& ~~~(BitVec.ofInt k.bits b)).toNat))) :=  Y.of (fun _ w s => by simp [execOp, s.eval hx, s.eval hy, eqGuard, binOp, Op.intBits])
end
theorem or_wrap {a i : Nat} (ha : a < 2 ^ i) (hi : i < 15) : IntKind.i64.wrap (((BitVec.ofInt IntKind.i64.bits (a : Int)) ||| (BitVec.ofInt IntKind.i64.bits (IntKind.i64.wrap ((1 * 2 ^ i : Nat) : Int)))).toNat : Int) = ((a + 2 ^ i : Nat) : Int) := by
  have hp : 2 ^ i ≤ 2 ^ 14 := Nat.pow_le_pow_right (by omega) (by omega)
  have e0 : ∀ x : Nat, x < 1000000 → IntKind.i64.wrap (x : Int) = (x : Int) := fun x hx => wrap_i64 (by omega) (by omega)
  have e : ∀ x : Nat, x < 18446744073709551616 → (BitVec.ofInt IntKind.i64.bits (x : Int)).toNat = x := fun x hx => by
    show (BitVec.ofInt 64 (x : Int)).toNat = x
    simp; omega
  have e2 : IntKind.i64.wrap ((1 * 2 ^ i : Nat) : Int) = ((1 * 2 ^ i : Nat) : Int) := e0 _ (by omega)
  rw [e2, BitVec.toNat_or, e _ (by omega), e _ (by omega), Nat.one_mul]
  have h := Nat.two_pow_add_eq_or_of_lt ha 1
  rw [Nat.mul_one, Nat.or_comm] at h
  rw [← h, e0 _ (by omega), Nat.add_comm]
theorem bitsN_lt : ∀ l : List Bool, bitsN l < 2 ^ l.length
  | [] => by simp [bitsN]
  | b :: l => by
    have := bitsN_lt l
    rw [List.length_cons, Nat.pow_succ]
    unfold bitsN
    cases b <;> simp <;> omega
theorem bitsN_snoc (b : Bool) : ∀ l : List Bool, bitsN (l ++ [b]) = bitsN l + (if b then 2 ^ l.length else 0)
  | [] => by cases b <;> simp [bitsN]
  | c :: l => by
    have := bitsN_snoc b l
    rw [List.cons_append, List.length_cons, Nat.pow_succ]
    unfold bitsN
    rw [this]
    cases b <;> simp <;> omega
set_option maxHeartbeats 400000 in
theorem held_spec (n : NV) (L : List HP) : CallsS Tryd.prog 24 [n.val] L (fun r L' => r = .int .i64 (bitsN n.bits) ∧ L' = L) := by
  refine CallsS.of_body Tryd.func24 rfl rfl rfl ?_
  iterate 60 (first | (refine GQ.y ?_; refine Q.y ?_) | refine Q.go ?_ | (refine GQ.g ?_; refine Q.gq ?_) | (refine GQ.s ?_; refine Q.st ?_) | (refine GQ.a ?_; refine Q.al (fun b1 => ?_)))
  iterate 3 (first | (refine GQ.y ?_; refine Q.y ?_) | refine Q.go ?_ | (refine GQ.g ?_; refine Q.gq ?_) | (refine GQ.s ?_; refine Q.st ?_) | (refine GQ.a ?_; refine Q.al (fun b1 => ?_)))
  refine S.y (Y.bda (l := [_, _, _, _, _, _, _, _, _, _, _, _, _, _, _]) (cs := n.bits.map Value.bool) rfl rfl (fit15 _ _ _ _ _ _ _ _ _ _ _ _ _ _ _) (fill15 _ _ _ _ _ _ _ _ _ _ _ _ _ _ _)) ?_
  refine Q.r ?_; (repeat (intro b1; refine Q.r ?_))
  have hlen : n.bits.length = 15 := rfl
  refine swp_loop (σ := Nat) (fun s => [(1, .pointer (some ⟨b1, 0, none⟩)), (55, .agg (n.bits.map Value.bool).toArray), (3, .int .i64 (bitsN (n.bits.take s))), (56, .int .i64 s)])
    (fun _ => pt b1 (cl n.cells 39) :: L) (fun s => s ≤ 15) (fun s => 15 - s) 0 ⟨rfl, rfl, rfl, rfl, trivial⟩ (Ent.refl _) (by omega) ?_
  intro k hk
  by_cases hlt : k < 15
  · obtain ⟨b, hb⟩ := mem_get (l := n.bits) (by rw [hlen]; exact hlt)
    have hv : (n.bits.map Value.bool).toArray[k]? = some (.bool b) := by simp [hb]
    have htk : n.bits.take (k + 1) = n.bits.take k ++ [b] := take_snoc hb
    have hl : bitsN (n.bits.take k) < 2 ^ k := by
      have := bitsN_lt (n.bits.take k)
      rw [List.length_take, hlen, Nat.min_eq_left (by omega)] at this
      exact this
    have hs := bitsN_snoc b (n.bits.take k)
    rw [← htk, List.length_take, hlen, Nat.min_eq_left (by omega)] at hs
    refine Q.r ?_; (repeat (intro b1; refine Q.r ?_))
    refine S.y (Y.ixa rfl rfl hlt hv) ?_
    cases b with
    | true =>
      refine Q.r ?_; (repeat (intro b1; refine Q.r ?_))
      refine S.y (Y.shl (a := 1) rfl rfl (by show k ≤ 64; omega)) ?_
      refine Q.r ?_; (repeat (intro b1; refine Q.r ?_))
      refine S.y (Y.or rfl rfl) ?_
      rw [or_wrap hl hlt]
      refine Q.r ?_; (repeat (intro b1; refine Q.r ?_))
      exact ⟨k + 1, ⟨rfl, rfl, congrArg some (congrArg (fun z : Nat => Value.int .i64 (z : Int)) hs.symm), rfl, trivial⟩, Ent.refl _, by omega, by omega⟩
    | false =>
      refine Q.r ?_; (repeat (intro b1; refine Q.r ?_))
      exact ⟨k + 1, ⟨rfl, rfl, congrArg some (congrArg (fun z : Nat => Value.int .i64 (z : Int)) hs.symm), rfl, trivial⟩, Ent.refl _, by omega, by omega⟩
  · have : k = 15 := by omega
    subst this
    refine Q.r ?_; (repeat (intro b1; refine Q.r ?_))
    exact N.r1 (RV.tmp rfl RV.nil) (Ent.drop (Ent.refl _)) ⟨rfl, rfl⟩
end Go.Proofs.YtjidejcehmamkaaDoor
/- Notes: bare, bounded, sorted, Right. No condition. -/
namespace Go.Proofs.YtjidejcehmamkaaDoor
open Go Go.SX
attribute [local irreducible] swp opsS thenS blockS retS CallsS St Ent YieldS anyS drawS
theorem IdxH_spec (f : FuncId) (fs cs : List Value) [he : Enters Tryd.prog f] (p : HV → Bool) (a : Option Addr) (c : Nat) (xs : List HV) (A : List HP) (h : RdS A a xs.length 3 (xs.flatMap HV.cells)) (hn : xs.length ≤ 4611686018427387904)
    (hf : ∀ x ∈ xs, CallsS Tryd.prog f (fs ++ [HV.val x] ++ cs) A (fun v L' => v = .bool (p x) ∧ L' = A)) :
    CallsS Tryd.prog 60 [.slice a xs.length c, .func (.func f) fs.toArray cs.toArray] A (fun v L' => (∃ i : Int, v = .int .i64 i ∧ decide (0 ≤ i) = xs.any p) ∧ L' = A) := by
  refine CallsS.of_body Tryd.func60 rfl rfl rfl ?_
  refine Q.r ?_; (repeat (intro b1; refine Q.r ?_))
  refine swp_loop (σ := Nat) (fun k => [(0, .slice a xs.length c), (1, .func (.func f) fs.toArray cs.toArray), (7, .int .i64 xs.length), (8, .int .i64 k)]) (fun _ => A)
    (fun k => k ≤ xs.length ∧ (xs.take k).any p = false) (fun k => xs.length - k) 0 ⟨rfl, rfl, rfl, rfl, trivial⟩ (Ent.refl _) ⟨by omega, by simp⟩ ?_
  rintro k ⟨hk, hany⟩
  by_cases hlt : k < xs.length
  · obtain ⟨x, hx⟩ := mem_get hlt
    obtain ⟨b, o, rfl, hr⟩ := RdS.elem (g := HV.cells) (fun _ => rfl) h hx rfl
    have hmx : x ∈ xs := List.mem_of_getElem? hx
    refine Q.r ?_; (repeat (intro b1; refine Q.r ?_))
    refine S.crF (fs := fs) (cs := cs) rfl rfl (hf x hmx) ?_
    rintro _ _ ⟨rfl, rfl⟩
    cases hp : p x with
    | true =>
      refine Q.r ?_; (repeat (intro b1; refine Q.r ?_))
      exact N.r1 (RV.tmp rfl RV.nil) (Ent.refl _) ⟨⟨_, rfl, by rw [show xs.any p = true from List.any_eq_true.2 ⟨x, hmx, hp⟩]; simp⟩, rfl⟩
    | false =>
      refine Q.r ?_; (repeat (intro b1; refine Q.r ?_))
      refine ⟨k + 1, ⟨rfl, rfl, rfl, rfl, trivial⟩, Ent.refl _, ⟨by omega, ?_⟩, by omega⟩
      rw [take_snoc hx, List.any_append, hany] <;> simp [hp]
  · have hke : k = xs.length := by omega
    subst hke
    rw [List.take_length] at hany
    refine Q.r ?_; (repeat (intro b1; refine Q.r ?_))
    exact N.r1 (RV.tmp rfl RV.nil) (Ent.refl _) ⟨⟨_, rfl, by rw [hany] <;> rfl⟩, rfl⟩
theorem HasH_spec (f : FuncId) (fs cs : List Value) [he : Enters Tryd.prog f] (p : HV → Bool) (a : Option Addr) (c : Nat) (xs : List HV) (A : List HP) (h : RdS A a xs.length 3 (xs.flatMap HV.cells)) (hn : xs.length ≤ 4611686018427387904)
    (hf : ∀ x ∈ xs, CallsS Tryd.prog f (fs ++ [HV.val x] ++ cs) A (fun v L' => v = .bool (p x) ∧ L' = A)) :
    CallsS Tryd.prog 43 [.slice a xs.length c, .func (.func f) fs.toArray cs.toArray] A (fun v L' => v = .bool (xs.any p) ∧ L' = A) := by
  refine CallsS.of_body Tryd.func43 rfl rfl rfl ?_
  refine Q.r ?_; (repeat (intro b1; refine Q.r ?_))
  refine S.cr rfl (IdxH_spec f fs cs p a c xs A h hn hf) ?_
  rintro _ _ ⟨⟨i, rfl, hi⟩, rfl⟩
  refine Q.r ?_; (repeat (intro b1; refine Q.r ?_))
  exact N.r1 (RV.tmp rfl RV.nil) (Ent.refl _) ⟨by rw [← hi], rfl⟩
theorem flat_I64 (xs : List Int) : xs.flatMap (fun z => [I64 z]) = xs.map I64 := by induction xs with
  | nil => rfl
  | cons x xs ih => rw [List.flatMap_cons, ih]; rfl
theorem bare_spec (a : Option Addr) (c : Nat) (xs : List Int) (A : List HP) (h : RdS A a xs.length 1 (xs.map I32)) (hn : xs.length ≤ 1000000) :
    CallsS Tryd.prog 40 [.slice a xs.length c] A (fun r L' => r = .bool (bareV xs) ∧ L' = A) := by
  unfold bareV
  refine CallsS.of_body Tryd.func40 rfl rfl rfl ?_
  by_cases h0 : xs.length = 0
  · refine Q.r ?_; (repeat (intro b1; refine Q.r ?_))
    exact N.r1 (RV.tmp rfl RV.nil) (Ent.refl _) ⟨by simp [h0], rfl⟩
  · refine Q.r ?_; (repeat (intro b1; refine Q.r ?_))
    refine S.cr rfl (Right_spec a c xs _ h.sub (by omega)) ?_
    rintro _ _ ⟨rfl, rfl⟩
    refine Q.r ?_; (repeat (intro b1; refine Q.r ?_))
    exact N.r1 (RV.tmp rfl RV.nil) (Ent.refl _) ⟨by simp [h0], rfl⟩
theorem bad1_spec (o : OV) (A : List HP) (h : RdS A o.a o.vec.length 1 (o.vec.map I32)) (hn : o.vec.length ≤ 1000000) :
    CallsS Tryd.prog 42 ([] ++ [o.val] ++ []) A (fun r L' => r = .bool (badOp o.abs) ∧ L' = A) := by
  unfold badOp
  refine CallsS.of_body Tryd.func42 rfl rfl rfl ?_
  by_cases h0 : 1099511627776 < o.id
  · refine Q.r ?_; (repeat (intro b1; refine Q.r ?_))
    exact N.r1 (RV.tmp rfl RV.nil) (Ent.drop (Ent.refl _)) ⟨by simp [h0], rfl⟩
  · refine Q.r ?_; (repeat (intro b1; refine Q.r ?_))
    refine S.cr rfl (bare_spec o.a o.c o.vec _ h.sub hn) ?_
    rintro _ _ ⟨rfl, rfl⟩
    refine Q.r ?_; (repeat (intro b1; refine Q.r ?_))
    exact N.r1 (RV.tmp rfl RV.nil) (Ent.drop (Ent.refl _)) ⟨by simp [h0], rfl⟩
theorem bad2_spec (o : HV) (A : List HP) (h : RdS A o.a o.vec.length 1 (o.vec.map I32)) (hn : o.vec.length ≤ 1000000) :
    CallsS Tryd.prog 44 ([] ++ [o.val] ++ []) A (fun r L' => r = .bool (badHit o.abs) ∧ L' = A) := by
  unfold badHit
  refine CallsS.of_body Tryd.func44 rfl rfl rfl ?_
  by_cases h0 : 1099511627776 < o.id
  · refine Q.r ?_; (repeat (intro b1; refine Q.r ?_))
    exact N.r1 (RV.tmp rfl RV.nil) (Ent.drop (Ent.refl _)) ⟨by simp [h0], rfl⟩
  · refine Q.r ?_; (repeat (intro b1; refine Q.r ?_))
    refine S.cr rfl (Right_spec o.a o.c o.vec _ h.sub (by omega)) ?_
    rintro _ _ ⟨rfl, rfl⟩
    refine Q.r ?_; (repeat (intro b1; refine Q.r ?_))
    exact N.r1 (RV.tmp rfl RV.nil) (Ent.drop (Ent.refl _)) ⟨by simp [h0], rfl⟩
section
variable {P : Program} {n : Nat} {ops : List Oper} {f : Env} {A : List HP} {d : Tmp} {ty : TypeId} {pos : String} {af : Array Edge}
theorem Y.max3 {x y z : Operand} {t t' t2 : TypeId} {k : IntKind} {a b c : Int} (hx : ev f x = some (.int k a)) (hy : ev f y = some (.int k b)) (hz : ev f z = some (.int k c)) :
    YieldS P n ops ⟨some d, .call ⟨.builtin .max, #[x, y, z], #[t, t', t2]⟩, ty, pos, af, none⟩ f A (.int k (Max.max (Max.max a b) c)) :=
  Y.of fun ac w s => by
    have h : ∀ a b : Int, Max.max a b = if a < b then b else a := fun a b => by simp only [Int.max_def]; split <;> split <;> omega
    simp [execOp, resolve, invoke, s.eval hx, s.eval hy, s.eval hz, builtin, Builtin.max_, Builtin.max2, h]
theorem Y.min4 {x y z u : Operand} {t t' t2 t3 : TypeId} {k : IntKind} {a b c e : Int} (hx : ev f x = some (.int k a)) (hy : ev f y = some (.int k b)) (hz : ev f z = some (.int k c)) (hu : ev f u = some (.int k e)) :
    YieldS P n ops ⟨some d, .call ⟨.builtin .min, #[x, y, z, u], #[t, t', t2, t3]⟩, ty, pos, af, none⟩ f A (.int k (Min.min (Min.min (Min.min a b) c) e)) :=
  Y.of fun ac w s => by
    have h : ∀ a b : Int, Min.min a b = if b < a then b else a := fun a b => by simp only [Int.min_def]; split <;> split <;> omega
    simp [execOp, resolve, invoke, s.eval hx, s.eval hy, s.eval hz, s.eval hu, builtin, Builtin.min_, Builtin.min2, h]
end
set_option maxHeartbeats 2000000 in
theorem bounded_spec (n : NV) (A : List HP) (h : RdN A n) (hk : OkN n) :
    CallsS Tryd.prog 25 [n.val] A (fun r L' => r = .bool (boundN n.abs) ∧ L' = A) := by
  have hE : boundN n.abs = (!(decide (1099511627776 < max (max n.stamp n.after) n.mark) || decide (1099511627776 < n.id) || decide (min (min (min n.k n.ef) n.who) n.code < 0) || decide (16 < n.k) || decide (256 < n.ef) || decide (16 ≤ n.who) || decide (13 < n.code)) &&
      !(decide (4 < n.parts.length) || decide (16 < n.ops.length) || decide (16 < n.hits.length) || !bareV n.vec) && partsV n.parts && !(n.ops.any fun o => badOp o.abs) && !(n.hits.any fun o => badHit o.abs)) := by
    unfold boundN; simp [List.any_map]; rfl
  rw [hE]
  clear hE
  refine CallsS.of_body Tryd.func25 rfl rfl rfl ?_
  by_cases a1 : 1099511627776 < max (max n.stamp n.after) n.mark
  · refine Q.r ?_; (repeat (intro b1; refine Q.r ?_)); refine S.y (Y.max3 rfl rfl rfl) ?_; (refine Q.r ?_; (repeat (intro b1; refine Q.r ?_)))
    exact N.r1 (RV.tmp rfl RV.nil) (Ent.drop (Ent.refl _)) ⟨by simp only [decide_eq_true a1, Bool.or_true, Bool.true_or, Bool.or_false, Bool.false_or, Bool.not_true, Bool.not_false, Bool.false_and, Bool.and_false, Bool.true_and, Bool.and_true], rfl⟩
  by_cases a2 : 1099511627776 < n.id
  · refine Q.r ?_; (repeat (intro b1; refine Q.r ?_)); refine S.y (Y.max3 rfl rfl rfl) ?_; (refine Q.r ?_; (repeat (intro b1; refine Q.r ?_)))
    exact N.r1 (RV.tmp rfl RV.nil) (Ent.drop (Ent.refl _)) ⟨by simp only [decide_eq_true a2, Bool.or_true, Bool.true_or, Bool.or_false, Bool.false_or, Bool.not_true, Bool.not_false, Bool.false_and, Bool.and_false, Bool.true_and, Bool.and_true], rfl⟩
  by_cases a3 : min (min (min n.k n.ef) n.who) n.code < 0
  · refine Q.r ?_; (repeat (intro b1; refine Q.r ?_)); refine S.y (Y.max3 rfl rfl rfl) ?_; (refine Q.r ?_; (repeat (intro b1; refine Q.r ?_))); refine S.y (Y.min4 rfl rfl rfl rfl) ?_; (refine Q.r ?_; (repeat (intro b1; refine Q.r ?_)))
    exact N.r1 (RV.tmp rfl RV.nil) (Ent.drop (Ent.refl _)) ⟨by simp only [decide_eq_true a3, Bool.or_true, Bool.true_or, Bool.or_false, Bool.false_or, Bool.not_true, Bool.not_false, Bool.false_and, Bool.and_false, Bool.true_and, Bool.and_true], rfl⟩
  by_cases a4 : 16 < n.k
  · refine Q.r ?_; (repeat (intro b1; refine Q.r ?_)); refine S.y (Y.max3 rfl rfl rfl) ?_; (refine Q.r ?_; (repeat (intro b1; refine Q.r ?_))); refine S.y (Y.min4 rfl rfl rfl rfl) ?_; (refine Q.r ?_; (repeat (intro b1; refine Q.r ?_)))
    exact N.r1 (RV.tmp rfl RV.nil) (Ent.drop (Ent.refl _)) ⟨by simp only [decide_eq_true a4, Bool.or_true, Bool.true_or, Bool.or_false, Bool.false_or, Bool.not_true, Bool.not_false, Bool.false_and, Bool.and_false, Bool.true_and, Bool.and_true], rfl⟩
  by_cases a5 : 256 < n.ef
  · refine Q.r ?_; (repeat (intro b1; refine Q.r ?_)); refine S.y (Y.max3 rfl rfl rfl) ?_; (refine Q.r ?_; (repeat (intro b1; refine Q.r ?_))); refine S.y (Y.min4 rfl rfl rfl rfl) ?_; (refine Q.r ?_; (repeat (intro b1; refine Q.r ?_)))
    exact N.r1 (RV.tmp rfl RV.nil) (Ent.drop (Ent.refl _)) ⟨by simp only [decide_eq_true a5, Bool.or_true, Bool.true_or, Bool.or_false, Bool.false_or, Bool.not_true, Bool.not_false, Bool.false_and, Bool.and_false, Bool.true_and, Bool.and_true], rfl⟩
  by_cases a6 : 16 ≤ n.who
  · refine Q.r ?_; (repeat (intro b1; refine Q.r ?_)); refine S.y (Y.max3 rfl rfl rfl) ?_; (refine Q.r ?_; (repeat (intro b1; refine Q.r ?_))); refine S.y (Y.min4 rfl rfl rfl rfl) ?_; (refine Q.r ?_; (repeat (intro b1; refine Q.r ?_)))
    exact N.r1 (RV.tmp rfl RV.nil) (Ent.drop (Ent.refl _)) ⟨by simp only [decide_eq_true a6, Bool.or_true, Bool.true_or, Bool.or_false, Bool.false_or, Bool.not_true, Bool.not_false, Bool.false_and, Bool.and_false, Bool.true_and, Bool.and_true], rfl⟩
  by_cases a7 : 13 < n.code
  · refine Q.r ?_; (repeat (intro b1; refine Q.r ?_)); refine S.y (Y.max3 rfl rfl rfl) ?_; (refine Q.r ?_; (repeat (intro b1; refine Q.r ?_))); refine S.y (Y.min4 rfl rfl rfl rfl) ?_; (refine Q.r ?_; (repeat (intro b1; refine Q.r ?_)))
    exact N.r1 (RV.tmp rfl RV.nil) (Ent.drop (Ent.refl _)) ⟨by simp only [decide_eq_true a7, Bool.or_true, Bool.true_or, Bool.or_false, Bool.false_or, Bool.not_true, Bool.not_false, Bool.false_and, Bool.and_false, Bool.true_and, Bool.and_true], rfl⟩
  by_cases q1 : 4 < n.parts.length
  · refine Q.r ?_; (repeat (intro b1; refine Q.r ?_)); refine S.y (Y.max3 rfl rfl rfl) ?_; (refine Q.r ?_; (repeat (intro b1; refine Q.r ?_))); refine S.y (Y.min4 rfl rfl rfl rfl) ?_; (refine Q.r ?_; (repeat (intro b1; refine Q.r ?_)))
    exact N.r1 (RV.tmp rfl RV.nil) (Ent.drop (Ent.refl _)) ⟨by simp only [decide_eq_true q1, Bool.or_true, Bool.true_or, Bool.or_false, Bool.false_or, Bool.not_true, Bool.not_false, Bool.false_and, Bool.and_false, Bool.true_and, Bool.and_true], rfl⟩
  by_cases q2 : 16 < n.ops.length
  · refine Q.r ?_; (repeat (intro b1; refine Q.r ?_)); refine S.y (Y.max3 rfl rfl rfl) ?_; (refine Q.r ?_; (repeat (intro b1; refine Q.r ?_))); refine S.y (Y.min4 rfl rfl rfl rfl) ?_; (refine Q.r ?_; (repeat (intro b1; refine Q.r ?_)))
    exact N.r1 (RV.tmp rfl RV.nil) (Ent.drop (Ent.refl _)) ⟨by simp only [decide_eq_true q2, Bool.or_true, Bool.true_or, Bool.or_false, Bool.false_or, Bool.not_true, Bool.not_false, Bool.false_and, Bool.and_false, Bool.true_and, Bool.and_true], rfl⟩
  by_cases q3 : 16 < n.hits.length
  · refine Q.r ?_; (repeat (intro b1; refine Q.r ?_)); refine S.y (Y.max3 rfl rfl rfl) ?_; (refine Q.r ?_; (repeat (intro b1; refine Q.r ?_))); refine S.y (Y.min4 rfl rfl rfl rfl) ?_; (refine Q.r ?_; (repeat (intro b1; refine Q.r ?_)))
    exact N.r1 (RV.tmp rfl RV.nil) (Ent.drop (Ent.refl _)) ⟨by simp only [decide_eq_true q3, Bool.or_true, Bool.true_or, Bool.or_false, Bool.false_or, Bool.not_true, Bool.not_false, Bool.false_and, Bool.and_false, Bool.true_and, Bool.and_true], rfl⟩
  refine Q.r ?_; (repeat (intro b1; refine Q.r ?_)); refine S.y (Y.max3 rfl rfl rfl) ?_; (refine Q.r ?_; (repeat (intro b1; refine Q.r ?_))); refine S.y (Y.min4 rfl rfl rfl rfl) ?_; (refine Q.r ?_; (repeat (intro b1; refine Q.r ?_)))
  refine S.cr rfl (bare_spec n.va n.vc n.vec _ h.v.sub hk.v) ?_
  rintro _ _ ⟨rfl, rfl⟩
  cases hbv : bareV n.vec with
  | false =>
    refine Q.r ?_; (repeat (intro b1; refine Q.r ?_))
    exact N.r1 (RV.tmp rfl RV.nil) (Ent.drop (Ent.refl _)) ⟨by simp only [Bool.or_true, Bool.true_or, Bool.or_false, Bool.false_or, Bool.not_true, Bool.not_false, Bool.false_and, Bool.and_false, Bool.true_and, Bool.and_true], rfl⟩
  | true =>
  simp only [decide_eq_false a1, decide_eq_false a2, decide_eq_false a3, decide_eq_false a4, decide_eq_false a5, decide_eq_false a6, decide_eq_false a7, decide_eq_false q1, decide_eq_false q2, decide_eq_false q3, Bool.or_true, Bool.true_or, Bool.or_false, Bool.false_or, Bool.not_true, Bool.not_false, Bool.false_and, Bool.and_false, Bool.true_and, Bool.and_true]
  clear a1 a2 a3 a4 a5 a6 a7
  refine Q.r ?_; (repeat (intro b1; refine Q.r ?_))
  refine swp_cutB (σ := Unit) (fun _ => [(1, .pointer (some ⟨b1, 0, none⟩))]) (fun _ => pt b1 (cl n.cells 39) :: A) (fun _ => partsV n.parts = true) ?_ ?_
  · refine swp_loop (σ := Nat) (fun k => [(1, .pointer (some ⟨b1, 0, none⟩)), (74, .slice n.pa n.parts.length n.pc), (75, .int .i64 n.parts.length), (76, .int .i64 k)])
      (fun _ => pt b1 (cl n.cells 39) :: A) (fun k => k ≤ n.parts.length ∧ (List.range k).all (okP n.parts) = true) (fun k => n.parts.length - k) 0 ⟨rfl, rfl, rfl, rfl, trivial⟩ (Ent.refl _) ⟨by omega, rfl⟩ ?_
    rintro k ⟨hk1, hk2⟩
    by_cases hlt : k < n.parts.length
    · obtain ⟨p, hp⟩ := mem_get hlt
      obtain ⟨bp, op, hpa, hr⟩ := RdS.elem (g := fun z => [I64 z]) (fun _ => rfl) (by rw [flat_I64]; exact h.p) hp rfl
      have hgp : n.parts.getD k 0 = p := by rw [List.getD_eq_getElem?_getD, hp]; rfl
      have hfail : okP n.parts k = false → partsV n.parts = false := fun hh => by
        unfold partsV
        rw [List.all_eq_false]
        exact ⟨k, List.mem_range.2 hlt, by rw [hh]; decide⟩
      rw [hpa]
      by_cases e1 : p < 0
      · repeat (first | refine S.y (Y.ldRj rfl (by first | assumption | exact RdC.sub (by assumption)) rfl) ?_ | (refine GQ.y ?_; refine Q.y ?_) | refine Q.go ?_ | (refine GQ.g ?_; refine Q.gq ?_) | (refine GQ.s ?_; refine Q.st ?_) | (refine GQ.g ?_; refine Q.gd ?_) | refine Q.ct rfl ?_ | refine Q.cf rfl ?_ | (refine GQ.a ?_; refine Q.al (fun b1 => ?_)))
        exact N.r1 (RV.tmp rfl RV.nil) (Ent.drop (Ent.refl _)) ⟨by rw [hfail (by unfold okP; rw [hgp, decide_eq_false (by omega : ¬ 0 ≤ p)]; rfl)]; rfl, rfl⟩
      by_cases e2 : 16 ≤ p
      · repeat (first | refine S.y (Y.ldRj rfl (by first | assumption | exact RdC.sub (by assumption)) rfl) ?_ | (refine GQ.y ?_; refine Q.y ?_) | refine Q.go ?_ | (refine GQ.g ?_; refine Q.gq ?_) | (refine GQ.s ?_; refine Q.st ?_) | (refine GQ.g ?_; refine Q.gd ?_) | refine Q.ct rfl ?_ | refine Q.cf rfl ?_ | (refine GQ.a ?_; refine Q.al (fun b1 => ?_)))
        exact N.r1 (RV.tmp rfl RV.nil) (Ent.drop (Ent.refl _)) ⟨by rw [hfail (by unfold okP; rw [hgp, decide_eq_false (by omega : ¬ p < 16), Bool.and_false]; rfl)]; rfl, rfl⟩
      by_cases e3 : k = 0
      · subst e3
        repeat (first | refine S.y (Y.ldRj rfl (by first | assumption | exact RdC.sub (by assumption)) rfl) ?_ | (refine GQ.y ?_; refine Q.y ?_) | refine Q.go ?_ | (refine GQ.g ?_; refine Q.gq ?_) | (refine GQ.s ?_; refine Q.st ?_) | (refine GQ.g ?_; refine Q.gd ?_) | refine Q.ct rfl ?_ | refine Q.cf rfl ?_ | (refine GQ.a ?_; refine Q.al (fun b1 => ?_)))
        exact ⟨1, ⟨by rw [← hpa]; rfl, by rw [← hpa]; rfl, rfl, rfl, trivial⟩, Ent.refl _, ⟨by omega, by rw [show List.range (0 + 1) = [0] from rfl, List.all_cons, List.all_nil]; unfold okP; rw [hgp, decide_eq_true (by omega : (0 : Int) ≤ p), decide_eq_true (by omega : p < 16)]; rfl⟩, by omega⟩
      · obtain ⟨q, hq⟩ := mem_get (l := n.parts) (show k - 1 < n.parts.length by omega)
        obtain ⟨bq, oq, hqa, hr2⟩ := RdS.elem (g := fun z => [I64 z]) (fun _ => rfl) (by rw [flat_I64]; exact h.p) hq rfl
        have hgq : n.parts.getD (k - 1) 0 = q := by rw [List.getD_eq_getElem?_getD, hq]; rfl
        by_cases e4 : p ≤ q
        · repeat (first | refine S.y (Y.ldRj rfl (by first | assumption | exact RdC.sub (by assumption)) rfl) ?_ | refine Q.yn ?_ | refine S.stI rfl rfl (by first | omega | (rw [Array.size_setIfInBounds]; omega)) ?_ | (refine GQ.y ?_; refine Q.y ?_) | refine Q.go ?_ | (refine GQ.g ?_; refine Q.gq ?_) | (refine GQ.s ?_; refine Q.st ?_) | (refine GQ.g ?_; refine Q.gd ?_) | refine Q.ct rfl ?_ | refine Q.cf rfl ?_ | (refine GQ.a ?_; refine Q.al (fun b1 => ?_)))
          rw [hqa]
          repeat (first | refine S.y (Y.ldRj rfl (by first | assumption | exact RdC.sub (by assumption)) rfl) ?_ | refine Q.yn ?_ | refine S.stI rfl rfl (by first | omega | (rw [Array.size_setIfInBounds]; omega)) ?_ | (refine GQ.y ?_; refine Q.y ?_) | refine Q.go ?_ | (refine GQ.g ?_; refine Q.gq ?_) | (refine GQ.s ?_; refine Q.st ?_) | (refine GQ.g ?_; refine Q.gd ?_) | refine Q.ct rfl ?_ | refine Q.cf rfl ?_ | (refine GQ.a ?_; refine Q.al (fun b1 => ?_)))
          exact N.r1 (RV.tmp rfl RV.nil) (Ent.drop (Ent.refl _)) ⟨by rw [hfail (by unfold okP; rw [hgp, hgq, decide_eq_false e3, decide_eq_false (by omega : ¬ q < p), Bool.or_false, Bool.and_false])]; rfl, rfl⟩
        · repeat (first | refine S.y (Y.ldRj rfl (by first | assumption | exact RdC.sub (by assumption)) rfl) ?_ | refine Q.yn ?_ | refine S.stI rfl rfl (by first | omega | (rw [Array.size_setIfInBounds]; omega)) ?_ | (refine GQ.y ?_; refine Q.y ?_) | refine Q.go ?_ | (refine GQ.g ?_; refine Q.gq ?_) | (refine GQ.s ?_; refine Q.st ?_) | (refine GQ.g ?_; refine Q.gd ?_) | refine Q.ct rfl ?_ | refine Q.cf rfl ?_ | (refine GQ.a ?_; refine Q.al (fun b1 => ?_)))
          rw [hqa]
          repeat (first | refine S.y (Y.ldRj rfl (by first | assumption | exact RdC.sub (by assumption)) rfl) ?_ | refine Q.yn ?_ | refine S.stI rfl rfl (by first | omega | (rw [Array.size_setIfInBounds]; omega)) ?_ | (refine GQ.y ?_; refine Q.y ?_) | refine Q.go ?_ | (refine GQ.g ?_; refine Q.gq ?_) | (refine GQ.s ?_; refine Q.st ?_) | (refine GQ.g ?_; refine Q.gd ?_) | refine Q.ct rfl ?_ | refine Q.cf rfl ?_ | (refine GQ.a ?_; refine Q.al (fun b1 => ?_)))
          refine ⟨k + 1, ⟨rfl, by first | rfl | (rw [← hqa]; rfl) | (rw [← hpa]; rfl) | (rw [hqa]; rfl) | (rw [hpa]; rfl), rfl, rfl, trivial⟩, Ent.refl _, ⟨by omega, ?_⟩, by omega⟩
          rw [List.range_succ, List.all_append, hk2, List.all_cons, List.all_nil]
          unfold okP
          rw [hgp, hgq, decide_eq_true (by omega : (0 : Int) ≤ p), decide_eq_true (by omega : p < 16), decide_eq_true (by omega : q < p), Bool.or_true]; rfl
    · have : k = n.parts.length := by omega
      subst this
      refine Q.r ?_; (repeat (intro b1; refine Q.r ?_))
      exact ⟨(), ⟨rfl, trivial⟩, Ent.refl _, hk2⟩
  · rintro _ hp
    refine Q.r ?_; (repeat (intro b1; refine Q.r ?_))
    refine S.cr rfl (HasO_spec 42 [] [] (fun o => badOp o.abs) n.oa n.oc n.ops _ h.o.1.sub (by have := hk.o; omega) (fun o ho => bad1_spec o _ ((h.o.2 o ho).sub) (hk.ov o ho))) ?_
    rintro _ _ ⟨rfl, rfl⟩
    cases hop : n.ops.any fun o => badOp o.abs with
    | true =>
      refine Q.r ?_; (repeat (intro b1; refine Q.r ?_))
      exact N.r1 (RV.tmp rfl RV.nil) (Ent.drop (Ent.refl _)) ⟨by simp only [Bool.or_true, Bool.true_or, Bool.or_false, Bool.false_or, Bool.not_true, Bool.not_false, Bool.false_and, Bool.and_false, Bool.true_and, Bool.and_true], rfl⟩
    | false =>
      refine Q.r ?_; (repeat (intro b1; refine Q.r ?_))
      refine S.cr rfl (HasH_spec 44 [] [] (fun o => badHit o.abs) n.ha n.hc n.hits _ h.h.sub (by have := hk.h; omega) (fun o ho => bad2_spec o _ ((h.hv o ho).sub) (hk.hv o ho))) ?_
      rintro _ _ ⟨rfl, rfl⟩
      refine Q.r ?_; (repeat (intro b1; refine Q.r ?_))
      exact N.r1 (RV.tmp rfl RV.nil) (Ent.drop (Ent.refl _)) ⟨by simp only [hp, Bool.or_true, Bool.true_or, Bool.or_false, Bool.false_or, Bool.not_true, Bool.not_false, Bool.false_and, Bool.and_false, Bool.true_and, Bool.and_true], rfl⟩
end Go.Proofs.YtjidejcehmamkaaDoor
/- Notes: sorted, Right. No condition. -/
namespace Go.Proofs.YtjidejcehmamkaaDoor
open Go Go.SX
attribute [local irreducible] swp opsS thenS blockS retS CallsS St Ent YieldS anyS drawS
abbrev ST := List UInt8 × Nat
abbrev ST.cells (p : ST) : List Value := [str p.1, .int .i64 (p.2 : Int)]
def sortsT : List ST := [([], 0), ([65, 115, 107], 4098), ([82, 101, 112, 108, 121], 518), ([80, 114, 101, 112, 97, 114, 101], 6153), ([86, 111, 116, 101], 513), ([68, 101, 99, 105, 100, 101], 517), ([65, 99, 107], 1), ([80, 114, 111, 98, 101], 1), ([81, 117, 101, 114, 121], 8672), ([76, 111, 111, 107], 8692), ([83, 101, 101, 110], 16928), ([82, 101, 115, 117, 108, 116], 16932), ([80, 114, 101, 112, 97, 114, 101, 100], 6153), ([67, 111, 109, 109, 105, 116, 116, 101, 100], 5), ([65, 98, 111, 114, 116, 101, 100], 1), ([83, 119, 101, 112, 116], 16), ([69, 112, 111, 99, 104], 16), ([67, 111, 109, 109, 105, 116], 2055), ([69, 110, 100], 1), ([66, 101, 103, 105, 110], 7179), ([89, 101, 115], 1025), ([65, 99, 107, 101, 100], 1025), ([71, 111, 110, 101], 1)]
def sortsC : List Value := sortsT.flatMap ST.cells
def sortT (k : Nat) : ST := (sortsT[k]?).getD ([], 0)
theorem sort_fld (k : Nat) : (sortT k).2 = fldN k := by
  by_cases h : k < 23
  · exact (by decide : ∀ k, k < 23 → (sortT k).2 = fldN k) k h
  · have h1 : sortT k = ([], 0) := by
      unfold sortT
      rw [List.getElem?_eq_none (by show 23 ≤ k; omega)]; rfl
    rw [h1]
    unfold fldN
    split <;> first | omega | rfl
theorem sort_name (k : Nat) : (decide ((sortT k).1 = [])) = !decide (1 ≤ k ∧ k ≤ 22) := by
  by_cases h : k < 23
  · exact (by decide : ∀ k, k < 23 → (decide ((sortT k).1 = [])) = !decide (1 ≤ k ∧ k ≤ 22)) k h
  · have h1 : sortT k = ([], 0) := by
      unfold sortT
      rw [List.getElem?_eq_none (by show 23 ≤ k; omega)]; rfl
    rw [h1, decide_eq_false (by omega : ¬ (1 ≤ k ∧ k ≤ 22))]; rfl
theorem sorted_spec (k : Nat) (A : List HP) (hT : RdC A 0 0 sortsC) (hk : k ≤ 255) :
    CallsS Tryd.prog 23 [.int .u8 (k : Int)] A (fun r L' => r = .agg (ST.cells (sortT k)).toArray ∧ L' = A) := by
  refine CallsS.of_body Tryd.func23 rfl rfl rfl ?_
  by_cases h : 23 ≤ k
  · have h1 : sortT k = ([], 0) := by
      unfold sortT
      rw [List.getElem?_eq_none (by show 23 ≤ k; omega)]; rfl
    rw [h1]
    refine Q.r ?_; (repeat (intro b1; refine Q.r ?_))
    refine S.y (Y.cvi rfl) ?_
    rw [wrap_i64 (by omega) (by omega)]
    refine Q.r ?_; (repeat (intro b1; refine Q.r ?_))
    exact N.r1 (by apply RV.cellN; rfl; exact RdC.row; rfl; exact RV.nil) (Ent.drop (Ent.refl _)) ⟨rfl, rfl⟩
  · have hs : sortsT[k]? = some (sortT k) := by
      unfold sortT
      rw [List.getElem?_eq_getElem (show k < sortsT.length by show k < 23; omega)]; rfl
    have hr : RdC A 0 (0 + k * 2) (ST.cells (sortT k)) := hT.part fun j v e => flat_get (g := ST.cells) (fun _ => rfl) sortsT k j _ v hs e
    refine Q.r ?_; (repeat (intro b1; refine Q.r ?_))
    refine S.y (Y.cvi rfl) ?_
    rw [wrap_i64 (by omega) (by omega)]
    refine Q.rn ?_; (repeat (intro b1; refine Q.rn ?_))
    exact N.r1 (by apply RV.cellN; rfl; exact RdC.row; rfl; exact RV.nil) (Ent.drop (Ent.refl _)) ⟨rfl, rfl⟩
theorem testBit_bitsN : ∀ (l : List Bool) (i : Nat), (bitsN l).testBit i = l.getD i false
  | [], i => by simp [bitsN]
  | b :: l, 0 => by
    unfold bitsN
    rw [Nat.testBit_zero]
    cases b <;> simp [Nat.add_mod]
  | b :: l, i + 1 => by
    unfold bitsN
    rw [Nat.testBit_succ, List.getD_cons_succ, ← testBit_bitsN l i]
    congr 1
    cases b <;> simp <;> omega
theorem i64_and (a f : Nat) (ha : a < 2 ^ 15) : IntKind.i64.wrap (((BitVec.ofInt IntKind.i64.bits (a : Int)) &&& ~~~(BitVec.ofInt IntKind.i64.bits (f : Int))).toNat : Int) = (((BitVec.ofNat 64 a &&& ~~~ BitVec.ofNat 64 f).toNat : Nat) : Int) := by
  have e : ∀ x : Nat, BitVec.ofInt IntKind.i64.bits (x : Int) = BitVec.ofNat 64 x := fun x => by
    show BitVec.ofInt 64 (x : Int) = _
    rw [BitVec.ofInt_natCast]
  rw [e, e]
  have h : (BitVec.ofNat 64 a &&& ~~~ BitVec.ofNat 64 f).toNat ≤ a := by
    rw [BitVec.toNat_and]
    refine Nat.le_trans Nat.and_le_left ?_
    simp; omega
  show IntKind.i64.wrap (((BitVec.ofNat 64 a &&& ~~~ BitVec.ofNat 64 f).toNat : Nat) : Int) = _
  exact wrap_i64 (by omega) (by omega)
theorem held_fits (n : NA) (f : Nat) : decide ((((BitVec.ofNat 64 (bitsN n.bits) &&& ~~~ BitVec.ofNat 64 f).toNat : Nat) : Int) = 0) = n.bits.zipIdx.all fun b => !b.1 || f.testBit b.2 := by
  have hl : n.bits.length = 15 := rfl
  rw [Bool.eq_iff_iff, decide_eq_true_iff, List.all_eq_true]
  constructor
  · intro h b hb
    obtain ⟨x, i⟩ := b
    have hi := List.mem_zipIdx_iff_getElem?.1 hb
    dsimp only at hi ⊢
    cases x with
    | false => rfl
    | true =>
      have hlt : i < 15 := by rw [← hl]; exact (List.getElem?_eq_some_iff.1 hi).1
      have h0 : (BitVec.ofNat 64 (bitsN n.bits) &&& ~~~ BitVec.ofNat 64 f) = 0#64 := BitVec.eq_of_toNat_eq (by simpa using h)
      have h1 := congrArg (fun v : BitVec 64 => v.getLsbD i) h0
      simp only [BitVec.getLsbD_and, BitVec.getLsbD_not, BitVec.getLsbD_ofNat] at h1
      rw [testBit_bitsN, List.getD_eq_getElem?_getD, hi] at h1
      simp [show i < 64 by omega] at h1
      simpa using h1
  · intro h
    have h0 : (BitVec.ofNat 64 (bitsN n.bits) &&& ~~~ BitVec.ofNat 64 f) = 0#64 := by
      apply BitVec.eq_of_getLsbD_eq
      intro i hi
      simp only [BitVec.getLsbD_and, BitVec.getLsbD_not, BitVec.getLsbD_ofNat, BitVec.getLsbD_zero]
      rw [testBit_bitsN, List.getD_eq_getElem?_getD]
      cases hb : n.bits[i]? with
      | none => simp
      | some b =>
        have := h (b, i) (List.mem_zipIdx_iff_getElem?.2 hb)
        dsimp only at this
        cases b with
        | false => simp
        | true => simp at this; simp [this, hi]
    rw [h0]; rfl
set_option maxHeartbeats 1000000 in
theorem NRight_spec (n : NV) (A : List HP) (h : RdN A n) (hk : OkN n) (hT : RdC A 0 0 sortsC) (h0 : 0 ≤ n.kind ∧ n.kind ≤ 255) :
    CallsS Tryd.prog 15 [n.val] A (fun r L' => r = .bool (rightN n.abs) ∧ L' = A) := by
  obtain ⟨k, hkk⟩ : ∃ k : Nat, n.kind = (k : Int) := ⟨n.kind.toNat, by omega⟩
  have hbd : bitsN n.bits < 2 ^ 15 := bitsN_lt n.bits
  have hE : rightN n.abs = ((!decide ((sortT k).1 = [])) && decide ((((BitVec.ofNat 64 (bitsN n.bits) &&& ~~~ BitVec.ofNat 64 (sortT k).2).toNat : Nat) : Int) = 0) && boundN n.abs) := by
    have := held_fits n.abs (sortT k).2
    rw [NV.bits_abs] at this
    unfold rightN
    rw [NV.bits_abs, this, sort_name, sort_fld, Bool.not_not]
    show (decide (1 ≤ n.kind ∧ n.kind ≤ 22) && (n.bits.zipIdx.all fun b => !b.1 || (fldN n.kind.toNat).testBit b.2) && boundN n.abs) = _
    rw [hkk, Int.toNat_natCast, show decide (1 ≤ (k : Int) ∧ (k : Int) ≤ 22) = decide (1 ≤ k ∧ k ≤ 22) from by congr 1; simp; omega]
  rw [hE]
  clear hE
  refine CallsS.of_body Tryd.func15 rfl rfl rfl ?_
  refine Q.r ?_; (repeat (intro b1; refine Q.r ?_))
  refine S.cr (args := [.int .u8 (k : Int)]) (by rw [← hkk]; rfl) (sorted_spec k _ hT.sub (by omega)) ?_
  rintro _ _ ⟨rfl, rfl⟩
  by_cases hn : (sortT k).1 = []
  · rw [decide_eq_true hn]
    refine Q.r ?_; (repeat (intro b1; refine Q.r ?_))
    refine Q.dgo [true, true] [5, 13] [] [0, 1, 2, 3, 4, 6, 7, 5, 8, 9, 10, 11, 12, 13, 14, 15] ?_
    refine Q.rd ?_; (repeat (intro b1; refine Q.rd ?_))
    refine Q.r ?_; (repeat (intro b1; refine Q.r ?_))
    exact N.r1 (RV.tmp rfl RV.nil) (Ent.drop (Ent.drop (Ent.refl _))) ⟨by simp only [Bool.not_true, Bool.false_and], rfl⟩
  rw [decide_eq_false hn]
  refine Q.r ?_; (repeat (intro b1; refine Q.r ?_))
  refine Q.dgo [true, true] [5, 13] [] [0, 1, 2, 3, 4, 6, 7, 5, 8, 9, 10, 11, 12, 13, 14, 15] ?_
  refine Q.rd ?_; (repeat (intro b1; refine Q.rd ?_))
  refine D.e rfl rfl rfl ?_
  refine S.guard rfl ?_
  refine S.cr rfl (held_spec n _) ?_
  rintro _ _ ⟨rfl, rfl⟩
  refine Q.r ?_; (repeat (intro b1; refine Q.r ?_))
  refine D.y rfl rfl rfl (by kernel_rfl) (Y.guard rfl (Y.andNot rfl rfl)) ?_
  rw [i64_and _ _ hbd]
  generalize (BitVec.ofNat 64 (bitsN n.bits) &&& ~~~ BitVec.ofNat 64 (sortT k).2).toNat = z
  by_cases hz : (z : Int) = 0
  · rw [decide_eq_true hz]
    refine Q.rd ?_; (repeat (intro b1; refine Q.rd ?_))
    refine D.e rfl rfl rfl ?_
    refine S.guard rfl ?_
    refine S.cr rfl (bounded_spec n _ h hk) ?_
    rintro _ _ ⟨rfl, rfl⟩
    refine Q.r ?_; (repeat (intro b1; refine Q.r ?_))
    refine Q.rd ?_; (repeat (intro b1; refine Q.rd ?_))
    refine Q.r ?_; (repeat (intro b1; refine Q.r ?_))
    exact N.r1 (RV.tmp rfl RV.nil) (Ent.drop (Ent.drop (Ent.refl _))) ⟨by simp only [Bool.not_false, Bool.true_and], rfl⟩
  · rw [decide_eq_false hz]
    refine Q.rd ?_; (repeat (intro b1; refine Q.rd ?_))
    refine Q.r ?_; (repeat (intro b1; refine Q.r ?_))
    exact N.r1 (RV.tmp rfl RV.nil) (Ent.drop (Ent.drop (Ent.refl _))) ⟨by simp only [Bool.not_false, Bool.and_false, Bool.false_and], rfl⟩
end Go.Proofs.YtjidejcehmamkaaDoor
