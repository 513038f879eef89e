/- Notes: as they lie; sorted, held. Notes: bare, bounded, sorted, Right. Notes: sorted, Right. The juror: notes, plans and records as laws of states. The juror: what it plans can be applied; what is over stays so. The vault: what Intents gives. VaultHolds: what is kept; the law, walked. The juror: what every record keeps, also one that was never planned. The ref's vault: At, Blocked, Get, Scan. The vault and the ref's: Get, Scan; SameHits, Mark. The vault: Scan. The vault: Intents, Dump, as what they give is owned. What is asked of vaults: Last, SameIntents, SameEntries, intents, entries. The juror as it lies; its simple calls. The juror: intent, taken, above. No condition. -/
import Derived.Test.YtjidejcehmamkaaGreatDoorPk07
set_option linter.unusedVariables false
set_option linter.unusedSimpArgs false
set_option linter.unusedSectionVars false
namespace Go.Proofs.YtjidejcehmamkaaGreatDoor
open Go Go.SX
attribute [local irreducible] swp opsS thenS blockS retS CallsS St Ent YieldS anyS drawS
structure HV where
  id : Int
  dist : Int
  a : Option Addr
  c : Nat
  vec : List Int
abbrev HV.cells (h : HV) : List Value := [.int .u64 h.id, .int .u64 h.dist, .slice h.a h.vec.length h.c]
abbrev I64 : Int → Value := Value.int .i64
abbrev HV.val (h : HV) : Value := .agg #[.int .u64 h.id, .int .u64 h.dist, .slice h.a h.vec.length h.c]
abbrev HV.abs (h : HV) : Int × Int × List Int := (h.id, h.dist, h.vec)
structure NV where
  kind : Int
  txn : Int
  batch : Int
  stamp : Int
  after : Int
  mark : Int
  query : Int
  id : Int
  k : Int
  ef : Int
  code : Int
  who : Int
  pa : Option Addr
  pc : Nat
  parts : List Int
  oa : Option Addr
  oc : Nat
  ops : List OV
  va : Option Addr
  vc : Nat
  vec : List Int
  ha : Option Addr
  hc : Nat
  hits : List HV
abbrev NV.cells (n : NV) : List Value := [.int .u8 n.kind, .int .u64 n.txn, .int .u64 n.batch, .int .u64 n.stamp, .int .u64 n.after, .int .u64 n.mark, .int .u64 n.query, .int .u64 n.id, .int .i64 n.k, .int .i64 n.ef, .int .i64 n.code, .int .i64 n.who,
  .slice n.pa n.parts.length n.pc, .slice n.oa n.ops.length n.oc, .slice n.va n.vec.length n.vc, .slice n.ha n.hits.length n.hc]
abbrev NV.val (n : NV) : Value := .agg #[.int .u8 n.kind, .int .u64 n.txn, .int .u64 n.batch, .int .u64 n.stamp, .int .u64 n.after, .int .u64 n.mark, .int .u64 n.query, .int .u64 n.id, .int .i64 n.k, .int .i64 n.ef, .int .i64 n.code, .int .i64 n.who,
  .slice n.pa n.parts.length n.pc, .slice n.oa n.ops.length n.oc, .slice n.va n.vec.length n.vc, .slice n.ha n.hits.length n.hc]
def NV.bits (n : NV) : List Bool := [decide (0 < n.txn), decide (0 < n.batch), decide (0 < n.stamp), decide (0 < n.after), decide (0 < n.mark), decide (0 < n.query), decide (0 < n.id), !decide (n.k = 0), !decide (n.ef = 0), !decide (n.code = 0), !decide (n.who = 0), decide (0 < (n.parts.length : Int)), decide (0 < (n.ops.length : Int)), decide (0 < (n.vec.length : Int)), decide (0 < (n.hits.length : Int))]
structure NA where
  kind : Int
  txn : Int
  batch : Int
  stamp : Int
  after : Int
  mark : Int
  query : Int
  id : Int
  k : Int
  ef : Int
  code : Int
  who : Int
  parts : List Int
  ops : VL
  vec : List Int
  hits : List (Int × Int × List Int)
abbrev NA.zero : NA := ⟨0, 0, 0, 0, 0, 0, 0, 0, 0, 0, 0, 0, [], [], [], []⟩
def NA.bits (n : NA) : List Bool := [decide (0 < n.txn), decide (0 < n.batch), decide (0 < n.stamp), decide (0 < n.after), decide (0 < n.mark), decide (0 < n.query), decide (0 < n.id), !decide (n.k = 0), !decide (n.ef = 0), !decide (n.code = 0), !decide (n.who = 0), decide (0 < (n.parts.length : Int)), decide (0 < (n.ops.length : Int)), decide (0 < (n.vec.length : Int)), decide (0 < (n.hits.length : Int))]
def fldN : Nat → Nat
  | 1 => 4098 | 2 => 518 | 3 => 6153 | 4 => 513 | 5 => 517 | 6 => 1 | 7 => 1 | 8 => 8672 | 9 => 8692 | 10 => 16928 | 11 => 16932 | 12 => 6153 | 13 => 5 | 14 => 1 | 15 => 16 | 16 => 16 | 17 => 2055 | 18 => 1 | 19 => 7179 | 20 => 1025 | 21 => 1025 | 22 => 1 | _ => 0
def bareV (v : List Int) : Bool := decide (v.length = 0) || rightV v
def badOp (o : Int × List Int) : Bool := decide (1099511627776 < o.1) || !bareV o.2
def badHit (h : Int × Int × List Int) : Bool := decide (1099511627776 < h.1) || !rightV h.2.2
def okP (l : List Int) (k : Nat) : Bool := decide (0 ≤ l.getD k 0) && decide (l.getD k 0 < 16) && (decide (k = 0) || decide (l.getD (k - 1) 0 < l.getD k 0))
def partsV (l : List Int) : Bool := (List.range l.length).all (okP l)
def boundN (n : NA) : Bool :=
  !(decide (1099511627776 < max (max n.stamp n.after) n.mark) || decide (1099511627776 < n.id) || decide (min (min (min n.k n.ef) n.who) n.code < 0) || decide (16 < n.k) || decide (256 < n.ef) || decide (16 ≤ n.who) || decide (13 < n.code)) &&
  !(decide (4 < n.parts.length) || decide (16 < n.ops.length) || decide (16 < n.hits.length) || !bareV n.vec) && partsV n.parts && !n.ops.any badOp && !n.hits.any badHit
def rightN (n : NA) : Bool := decide (1 ≤ n.kind ∧ n.kind ≤ 22) && (n.bits.zipIdx.all fun b => !b.1 || (fldN n.kind.toNat).testBit b.2) && boundN n
abbrev NV.abs (n : NV) : NA := ⟨n.kind, n.txn, n.batch, n.stamp, n.after, n.mark, n.query, n.id, n.k, n.ef, n.code, n.who, n.parts, n.ops.map OV.abs, n.vec, n.hits.map HV.abs⟩
theorem NV.bits_abs (n : NV) : n.abs.bits = n.bits := by unfold NA.bits NV.bits; simp
structure RdN (A : List HP) (n : NV) : Prop where
  p : RdS A n.pa n.parts.length 1 (n.parts.map I64)
  o : RdO A n.oa n.ops
  v : RdS A n.va n.vec.length 1 (n.vec.map I32)
  h : RdS A n.ha n.hits.length 3 (n.hits.flatMap HV.cells)
  hv : ∀ h ∈ n.hits, RdS A h.a h.vec.length 1 (h.vec.map I32)
theorem RdN.sub {A L : List HP} {n : NV} (h : RdN A n) [s : Sub A L] : RdN L n := ⟨h.p.sub, h.o.sub, h.v.sub, h.h.sub, fun x hx => (h.hv x hx).sub⟩
structure OkN (n : NV) : Prop where
  p : n.parts.length ≤ 1000000
  o : n.ops.length ≤ 1000000
  ov : ∀ o ∈ n.ops, o.vec.length ≤ 1000000
  v : n.vec.length ≤ 1000000
  h : n.hits.length ≤ 1000000
  hv : ∀ h ∈ n.hits, h.vec.length ≤ 1000000
def bitsN : List Bool → Nat
  | [] => 0
  | b :: l => (if b then 1 else 0) + 2 * bitsN l
theorem fit15 (b0 b1 b2 b3 b4 b5 b6 b7 b8 b9 b10 b11 b12 b13 b14 : Bool) : fitsL (rowL 1 15) (15 * 1) (cellsOf [(0, Value.bool b0), (1, Value.bool b1), (2, Value.bool b2), (3, Value.bool b3), (4, Value.bool b4), (5, Value.bool b5), (6, Value.bool b6), (7, Value.bool b7), (8, Value.bool b8), (9, Value.bool b9), (10, Value.bool b10), (11, Value.bool b11), (12, Value.bool b12), (13, Value.bool b13), (14, Value.bool b14)]) = true := by rfl
theorem fill15 (b0 b1 b2 b3 b4 b5 b6 b7 b8 b9 b10 b11 b12 b13 b14 : Bool) : fillL (rowL 1 15) [Value.bool false, Value.bool false, Value.bool false, Value.bool false, Value.bool false, Value.bool false, Value.bool false, Value.bool false, Value.bool false, Value.bool false, Value.bool false, Value.bool false, Value.bool false, Value.bool false, Value.bool false] (cellsOf [(0, Value.bool b0), (1, Value.bool b1), (2, Value.bool b2), (3, Value.bool b3), (4, Value.bool b4), (5, Value.bool b5), (6, Value.bool b6), (7, Value.bool b7), (8, Value.bool b8), (9, Value.bool b9), (10, Value.bool b10), (11, Value.bool b11), (12, Value.bool b12), (13, Value.bool b13), (14, Value.bool b14)]) = [Value.bool b0, Value.bool b1, Value.bool b2, Value.bool b3, Value.bool b4, Value.bool b5, Value.bool b6, Value.bool b7, Value.bool b8, Value.bool b9, Value.bool b10, Value.bool b11, Value.bool b12, Value.bool b13, Value.bool b14] := by kernel_rfl
section
variable {P : Program} {n : Nat} {ops : List Oper} {f : Env} {A : List HP} {d : Tmp} {ty : TypeId} {pos : String} {af : Array Edge}
theorem Y.ixa {x y : Operand} {t e : TypeId} {len bts i : Nat} {k : IntKind} {zs : List Value} {cs : Array Value} {v : Value} [h : ArrTy P t len e] [h2 : Ty P e false 1 zs bts] (hx : ev f x = some (.agg cs)) (hy : ev f y = some (.int k (i : Int))) (hi : i < len) (hv : cs[i]? = some v) :
    YieldS P n ops ⟨some d, .index t x y, ty, pos, af, none⟩ f A v :=
  Y.of (fun _ w s => by
    have e1 : (0 : Int) ≤ (i : Int) ∧ (i : Int) < (len : Int) := ⟨by omega, by omega⟩
    simp [execOp, s.eval hx, s.eval hy, Instr.index, asIntOf, h.und, e1, part, h2.agg, h2.size, hv, hi])
theorem Y.or {x y : Operand} {t t' : TypeId} {k : IntKind} {a b : Int} (hx : ev f x = some (.int k a)) (hy : ev f y = some (.int k b)) : YieldS P n ops ⟨some d, .binOp .or t x y t', ty, pos, af, none⟩ f A ((.int k (k.wrap ((BitVec.ofInt k.bits a) ||| (BitVec.ofInt k.bits b)).toNat))) :=  Y.of (fun _ w s => by simp [execOp, s.eval hx, s.eval hy, eqGuard, binOp, Op.intBits])
theorem Y.andNot {x y : Operand} {t t' : TypeId} {k : IntKind} {a b : Int} (hx : ev f x = some (.int k a)) (hy : ev f y = some (.int k b)) : YieldS P n ops ⟨some d, .binOp .andNot t x y t', ty, pos, af, none⟩ f A ((.int k (k.wrap ((BitVec.ofInt k.bits a) &&& ~~~(BitVec.ofInt k.bits b)).toNat))) :=  Y.of (fun _ w s => by simp [execOp, s.eval hx, s.eval hy, eqGuard, binOp, Op.intBits])
end
theorem or_wrap {a i : Nat} (ha : a < 2 ^ i) (hi : i < 15) : IntKind.i64.wrap (((BitVec.ofInt IntKind.i64.bits (a : Int)) ||| (BitVec.ofInt IntKind.i64.bits (IntKind.i64.wrap ((1 * 2 ^ i : Nat) : Int)))).toNat : Int) = ((a + 2 ^ i : Nat) : Int) := by
  have hp : 2 ^ i ≤ 2 ^ 14 := Nat.pow_le_pow_right (by omega) (by omega)
  have e0 : ∀ x : Nat, x < 1000000 → IntKind.i64.wrap (x : Int) = (x : Int) := fun x hx => wrap_i64 (by omega) (by omega)
  have e : ∀ x : Nat, x < 18446744073709551616 → (BitVec.ofInt IntKind.i64.bits (x : Int)).toNat = x := fun x hx => by
    show (BitVec.ofInt 64 (x : Int)).toNat = x
    simp; omega
  have e2 : IntKind.i64.wrap ((1 * 2 ^ i : Nat) : Int) = ((1 * 2 ^ i : Nat) : Int) := e0 _ (by omega)
  rw [e2, BitVec.toNat_or, e _ (by omega), e _ (by omega), Nat.one_mul]
  have h := Nat.two_pow_add_eq_or_of_lt ha 1
  rw [Nat.mul_one, Nat.or_comm] at h
  rw [← h, e0 _ (by omega), Nat.add_comm]
theorem bitsN_lt : ∀ l : List Bool, bitsN l < 2 ^ l.length
  | [] => by simp [bitsN]
  | b :: l => by
    have := bitsN_lt l
    rw [List.length_cons, Nat.pow_succ]
    unfold bitsN
    cases b <;> simp <;> omega
theorem bitsN_snoc (b : Bool) : ∀ l : List Bool, bitsN (l ++ [b]) = bitsN l + (if b then 2 ^ l.length else 0)
  | [] => by cases b <;> simp [bitsN]
  | c :: l => by
    have := bitsN_snoc b l
    rw [List.cons_append, List.length_cons, Nat.pow_succ]
    unfold bitsN
    rw [this]
    cases b <;> simp <;> omega
set_option maxHeartbeats 400000 in
theorem held_spec (n : NV) (L : List HP) : CallsS Tryz.prog 107 [n.val] L (fun r L' => r = .int .i64 (bitsN n.bits) ∧ L' = L) := by
  refine CallsS.of_body Tryz.func107 rfl rfl rfl ?_
  iterate 60 (first | (refine GQ.y ?_; refine Q.y ?_) | refine Q.go ?_ | (refine GQ.g ?_; refine Q.gq ?_) | (refine GQ.s ?_; refine Q.st ?_) | (refine GQ.a ?_; refine Q.al (fun b1 => ?_)))
  iterate 3 (first | (refine GQ.y ?_; refine Q.y ?_) | refine Q.go ?_ | (refine GQ.g ?_; refine Q.gq ?_) | (refine GQ.s ?_; refine Q.st ?_) | (refine GQ.a ?_; refine Q.al (fun b1 => ?_)))
  refine S.y (Y.bda (l := [_, _, _, _, _, _, _, _, _, _, _, _, _, _, _]) (cs := n.bits.map Value.bool) rfl rfl (fit15 _ _ _ _ _ _ _ _ _ _ _ _ _ _ _) (fill15 _ _ _ _ _ _ _ _ _ _ _ _ _ _ _)) ?_
  refine Q.r ?_; (repeat (intro b1; refine Q.r ?_))
  have hlen : n.bits.length = 15 := rfl
  refine swp_loop (σ := Nat) (fun s => [(1, .pointer (some ⟨b1, 0, none⟩)), (55, .agg (n.bits.map Value.bool).toArray), (3, .int .i64 (bitsN (n.bits.take s))), (56, .int .i64 s)])
    (fun _ => pt b1 (cl n.cells 57) :: L) (fun s => s ≤ 15) (fun s => 15 - s) 0 ⟨rfl, rfl, rfl, rfl, trivial⟩ (Ent.refl _) (by omega) ?_
  intro k hk
  by_cases hlt : k < 15
  · obtain ⟨b, hb⟩ := mem_get (l := n.bits) (by rw [hlen]; exact hlt)
    have hv : (n.bits.map Value.bool).toArray[k]? = some (.bool b) := by simp [hb]
    have htk : n.bits.take (k + 1) = n.bits.take k ++ [b] := take_snoc hb
    have hl : bitsN (n.bits.take k) < 2 ^ k := by
      have := bitsN_lt (n.bits.take k)
      rw [List.length_take, hlen, Nat.min_eq_left (by omega)] at this
      exact this
    have hs := bitsN_snoc b (n.bits.take k)
    rw [← htk, List.length_take, hlen, Nat.min_eq_left (by omega)] at hs
    refine Q.r ?_; (repeat (intro b1; refine Q.r ?_))
    refine S.y (Y.ixa rfl rfl hlt hv) ?_
    cases b with
    | true =>
      refine Q.r ?_; (repeat (intro b1; refine Q.r ?_))
      refine S.y (Y.shl (a := 1) rfl rfl (by show k ≤ 64; omega)) ?_
      refine Q.r ?_; (repeat (intro b1; refine Q.r ?_))
      refine S.y (Y.or rfl rfl) ?_
      rw [or_wrap hl hlt]
      refine Q.r ?_; (repeat (intro b1; refine Q.r ?_))
      exact ⟨k + 1, ⟨rfl, rfl, congrArg some (congrArg (fun z : Nat => Value.int .i64 (z : Int)) hs.symm), rfl, trivial⟩, Ent.refl _, by omega, by omega⟩
    | false =>
      refine Q.r ?_; (repeat (intro b1; refine Q.r ?_))
      exact ⟨k + 1, ⟨rfl, rfl, congrArg some (congrArg (fun z : Nat => Value.int .i64 (z : Int)) hs.symm), rfl, trivial⟩, Ent.refl _, by omega, by omega⟩
  · have : k = 15 := by omega
    subst this
    refine Q.r ?_; (repeat (intro b1; refine Q.r ?_))
    exact N.r1 (RV.tmp rfl RV.nil) (Ent.drop (Ent.refl _)) ⟨rfl, rfl⟩
end Go.Proofs.YtjidejcehmamkaaGreatDoor
namespace Go.Proofs.YtjidejcehmamkaaGreatDoor
open Go Go.SX
attribute [local irreducible] swp opsS thenS blockS retS CallsS St Ent YieldS anyS drawS
theorem IdxH_spec (f : FuncId) (fs cs : List Value) [he : Enters Tryz.prog f] (p : HV → Bool) (a : Option Addr) (c : Nat) (xs : List HV) (A : List HP) (h : RdS A a xs.length 3 (xs.flatMap HV.cells)) (hn : xs.length ≤ 4611686018427387904)
    (hf : ∀ x ∈ xs, CallsS Tryz.prog f (fs ++ [HV.val x] ++ cs) A (fun v L' => v = .bool (p x) ∧ L' = A)) :
    CallsS Tryz.prog 177 [.slice a xs.length c, .func (.func f) fs.toArray cs.toArray] A (fun v L' => (∃ i : Int, v = .int .i64 i ∧ decide (0 ≤ i) = xs.any p) ∧ L' = A) := by
  refine CallsS.of_body Tryz.func177 rfl rfl rfl ?_
  refine Q.r ?_; (repeat (intro b1; refine Q.r ?_))
  refine swp_loop (σ := Nat) (fun k => [(0, .slice a xs.length c), (1, .func (.func f) fs.toArray cs.toArray), (7, .int .i64 xs.length), (8, .int .i64 k)]) (fun _ => A)
    (fun k => k ≤ xs.length ∧ (xs.take k).any p = false) (fun k => xs.length - k) 0 ⟨rfl, rfl, rfl, rfl, trivial⟩ (Ent.refl _) ⟨by omega, by simp⟩ ?_
  rintro k ⟨hk, hany⟩
  by_cases hlt : k < xs.length
  · obtain ⟨x, hx⟩ := mem_get hlt
    obtain ⟨b, o, rfl, hr⟩ := RdS.elem (g := HV.cells) (fun _ => rfl) h hx rfl
    have hmx : x ∈ xs := List.mem_of_getElem? hx
    refine Q.r ?_; (repeat (intro b1; refine Q.r ?_))
    refine S.crF (fs := fs) (cs := cs) rfl rfl (hf x hmx) ?_
    rintro _ _ ⟨rfl, rfl⟩
    cases hp : p x with
    | true =>
      refine Q.r ?_; (repeat (intro b1; refine Q.r ?_))
      exact N.r1 (RV.tmp rfl RV.nil) (Ent.refl _) ⟨⟨_, rfl, by rw [show xs.any p = true from List.any_eq_true.2 ⟨x, hmx, hp⟩]; simp⟩, rfl⟩
    | false =>
      refine Q.r ?_; (repeat (intro b1; refine Q.r ?_))
      refine ⟨k + 1, ⟨rfl, rfl, rfl, rfl, trivial⟩, Ent.refl _, ⟨by omega, ?_⟩, by omega⟩
      rw [take_snoc hx, List.any_append, hany] <;> simp [hp]
  · have hke : k = xs.length := by omega
    subst hke
    rw [List.take_length] at hany
    refine Q.r ?_; (repeat (intro b1; refine Q.r ?_))
    exact N.r1 (RV.tmp rfl RV.nil) (Ent.refl _) ⟨⟨_, rfl, by rw [hany] <;> rfl⟩, rfl⟩
theorem HasH_spec (f : FuncId) (fs cs : List Value) [he : Enters Tryz.prog f] (p : HV → Bool) (a : Option Addr) (c : Nat) (xs : List HV) (A : List HP) (h : RdS A a xs.length 3 (xs.flatMap HV.cells)) (hn : xs.length ≤ 4611686018427387904)
    (hf : ∀ x ∈ xs, CallsS Tryz.prog f (fs ++ [HV.val x] ++ cs) A (fun v L' => v = .bool (p x) ∧ L' = A)) :
    CallsS Tryz.prog 153 [.slice a xs.length c, .func (.func f) fs.toArray cs.toArray] A (fun v L' => v = .bool (xs.any p) ∧ L' = A) := by
  refine CallsS.of_body Tryz.func153 rfl rfl rfl ?_
  refine Q.r ?_; (repeat (intro b1; refine Q.r ?_))
  refine S.cr rfl (IdxH_spec f fs cs p a c xs A h hn hf) ?_
  rintro _ _ ⟨⟨i, rfl, hi⟩, rfl⟩
  refine Q.r ?_; (repeat (intro b1; refine Q.r ?_))
  exact N.r1 (RV.tmp rfl RV.nil) (Ent.refl _) ⟨by rw [← hi], rfl⟩
theorem flat_I64 (xs : List Int) : xs.flatMap (fun z => [I64 z]) = xs.map I64 := by induction xs with
  | nil => rfl
  | cons x xs ih => rw [List.flatMap_cons, ih]; rfl
theorem bare_spec (a : Option Addr) (c : Nat) (xs : List Int) (A : List HP) (h : RdS A a xs.length 1 (xs.map I32)) (hn : xs.length ≤ 1000000) :
    CallsS Tryz.prog 150 [.slice a xs.length c] A (fun r L' => r = .bool (bareV xs) ∧ L' = A) := by
  unfold bareV
  refine CallsS.of_body Tryz.func150 rfl rfl rfl ?_
  by_cases h0 : xs.length = 0
  · refine Q.r ?_; (repeat (intro b1; refine Q.r ?_))
    exact N.r1 (RV.tmp rfl RV.nil) (Ent.refl _) ⟨by simp [h0], rfl⟩
  · refine Q.r ?_; (repeat (intro b1; refine Q.r ?_))
    refine S.cr rfl (Right_spec a c xs _ h.sub (by omega)) ?_
    rintro _ _ ⟨rfl, rfl⟩
    refine Q.r ?_; (repeat (intro b1; refine Q.r ?_))
    exact N.r1 (RV.tmp rfl RV.nil) (Ent.refl _) ⟨by simp [h0], rfl⟩
theorem bad1_spec (o : OV) (A : List HP) (h : RdS A o.a o.vec.length 1 (o.vec.map I32)) (hn : o.vec.length ≤ 1000000) :
    CallsS Tryz.prog 152 ([] ++ [o.val] ++ []) A (fun r L' => r = .bool (badOp o.abs) ∧ L' = A) := by
  unfold badOp
  refine CallsS.of_body Tryz.func152 rfl rfl rfl ?_
  by_cases h0 : 1099511627776 < o.id
  · refine Q.r ?_; (repeat (intro b1; refine Q.r ?_))
    exact N.r1 (RV.tmp rfl RV.nil) (Ent.drop (Ent.refl _)) ⟨by simp [h0], rfl⟩
  · refine Q.r ?_; (repeat (intro b1; refine Q.r ?_))
    refine S.cr rfl (bare_spec o.a o.c o.vec _ h.sub hn) ?_
    rintro _ _ ⟨rfl, rfl⟩
    refine Q.r ?_; (repeat (intro b1; refine Q.r ?_))
    exact N.r1 (RV.tmp rfl RV.nil) (Ent.drop (Ent.refl _)) ⟨by simp [h0], rfl⟩
theorem bad2_spec (o : HV) (A : List HP) (h : RdS A o.a o.vec.length 1 (o.vec.map I32)) (hn : o.vec.length ≤ 1000000) :
    CallsS Tryz.prog 154 ([] ++ [o.val] ++ []) A (fun r L' => r = .bool (badHit o.abs) ∧ L' = A) := by
  unfold badHit
  refine CallsS.of_body Tryz.func154 rfl rfl rfl ?_
  by_cases h0 : 1099511627776 < o.id
  · refine Q.r ?_; (repeat (intro b1; refine Q.r ?_))
    exact N.r1 (RV.tmp rfl RV.nil) (Ent.drop (Ent.refl _)) ⟨by simp [h0], rfl⟩
  · refine Q.r ?_; (repeat (intro b1; refine Q.r ?_))
    refine S.cr rfl (Right_spec o.a o.c o.vec _ h.sub (by omega)) ?_
    rintro _ _ ⟨rfl, rfl⟩
    refine Q.r ?_; (repeat (intro b1; refine Q.r ?_))
    exact N.r1 (RV.tmp rfl RV.nil) (Ent.drop (Ent.refl _)) ⟨by simp [h0], rfl⟩
section
variable {P : Program} {n : Nat} {ops : List Oper} {f : Env} {A : List HP} {d : Tmp} {ty : TypeId} {pos : String} {af : Array Edge}
theorem Y.max3 {x y z : Operand} {t t' t2 : TypeId} {k : IntKind} {a b c : Int} (hx : ev f x = some (.int k a)) (hy : ev f y = some (.int k b)) (hz : ev f z = some (.int k c)) :
    YieldS P n ops ⟨some d, .call ⟨.builtin .max, #[x, y, z], #[t, t', t2]⟩, ty, pos, af, none⟩ f A (.int k (Max.max (Max.max a b) c)) :=
  Y.of fun ac w s => by
    have h : ∀ a b : Int, Max.max a b = if a < b then b else a := fun a b => by simp only [Int.max_def]; split <;> split <;> omega
    simp [execOp, resolve, invoke, s.eval hx, s.eval hy, s.eval hz, builtin, Builtin.max_, Builtin.max2, h]
theorem Y.min4 {x y z u : Operand} {t t' t2 t3 : TypeId} {k : IntKind} {a b c e : Int} (hx : ev f x = some (.int k a)) (hy : ev f y = some (.int k b)) (hz : ev f z = some (.int k c)) (hu : ev f u = some (.int k e)) :
    YieldS P n ops ⟨some d, .call ⟨.builtin .min, #[x, y, z, u], #[t, t', t2, t3]⟩, ty, pos, af, none⟩ f A (.int k (Min.min (Min.min (Min.min a b) c) e)) :=
  Y.of fun ac w s => by
    have h : ∀ a b : Int, Min.min a b = if b < a then b else a := fun a b => by simp only [Int.min_def]; split <;> split <;> omega
    simp [execOp, resolve, invoke, s.eval hx, s.eval hy, s.eval hz, s.eval hu, builtin, Builtin.min_, Builtin.min2, h]
end
set_option maxHeartbeats 2000000 in
theorem bounded_spec (n : NV) (A : List HP) (h : RdN A n) (hk : OkN n) :
    CallsS Tryz.prog 108 [n.val] A (fun r L' => r = .bool (boundN n.abs) ∧ L' = A) := by
  have hE : boundN n.abs = (!(decide (1099511627776 < max (max n.stamp n.after) n.mark) || decide (1099511627776 < n.id) || decide (min (min (min n.k n.ef) n.who) n.code < 0) || decide (16 < n.k) || decide (256 < n.ef) || decide (16 ≤ n.who) || decide (13 < n.code)) &&
      !(decide (4 < n.parts.length) || decide (16 < n.ops.length) || decide (16 < n.hits.length) || !bareV n.vec) && partsV n.parts && !(n.ops.any fun o => badOp o.abs) && !(n.hits.any fun o => badHit o.abs)) := by
    unfold boundN; simp [List.any_map]; rfl
  rw [hE]
  clear hE
  refine CallsS.of_body Tryz.func108 rfl rfl rfl ?_
  by_cases a1 : 1099511627776 < max (max n.stamp n.after) n.mark
  · refine Q.r ?_; (repeat (intro b1; refine Q.r ?_)); refine S.y (Y.max3 rfl rfl rfl) ?_; (refine Q.r ?_; (repeat (intro b1; refine Q.r ?_)))
    exact N.r1 (RV.tmp rfl RV.nil) (Ent.drop (Ent.refl _)) ⟨by simp only [decide_eq_true a1, Bool.or_true, Bool.true_or, Bool.or_false, Bool.false_or, Bool.not_true, Bool.not_false, Bool.false_and, Bool.and_false, Bool.true_and, Bool.and_true], rfl⟩
  by_cases a2 : 1099511627776 < n.id
  · refine Q.r ?_; (repeat (intro b1; refine Q.r ?_)); refine S.y (Y.max3 rfl rfl rfl) ?_; (refine Q.r ?_; (repeat (intro b1; refine Q.r ?_)))
    exact N.r1 (RV.tmp rfl RV.nil) (Ent.drop (Ent.refl _)) ⟨by simp only [decide_eq_true a2, Bool.or_true, Bool.true_or, Bool.or_false, Bool.false_or, Bool.not_true, Bool.not_false, Bool.false_and, Bool.and_false, Bool.true_and, Bool.and_true], rfl⟩
  by_cases a3 : min (min (min n.k n.ef) n.who) n.code < 0
  · refine Q.r ?_; (repeat (intro b1; refine Q.r ?_)); refine S.y (Y.max3 rfl rfl rfl) ?_; (refine Q.r ?_; (repeat (intro b1; refine Q.r ?_))); refine S.y (Y.min4 rfl rfl rfl rfl) ?_; (refine Q.r ?_; (repeat (intro b1; refine Q.r ?_)))
    exact N.r1 (RV.tmp rfl RV.nil) (Ent.drop (Ent.refl _)) ⟨by simp only [decide_eq_true a3, Bool.or_true, Bool.true_or, Bool.or_false, Bool.false_or, Bool.not_true, Bool.not_false, Bool.false_and, Bool.and_false, Bool.true_and, Bool.and_true], rfl⟩
  by_cases a4 : 16 < n.k
  · refine Q.r ?_; (repeat (intro b1; refine Q.r ?_)); refine S.y (Y.max3 rfl rfl rfl) ?_; (refine Q.r ?_; (repeat (intro b1; refine Q.r ?_))); refine S.y (Y.min4 rfl rfl rfl rfl) ?_; (refine Q.r ?_; (repeat (intro b1; refine Q.r ?_)))
    exact N.r1 (RV.tmp rfl RV.nil) (Ent.drop (Ent.refl _)) ⟨by simp only [decide_eq_true a4, Bool.or_true, Bool.true_or, Bool.or_false, Bool.false_or, Bool.not_true, Bool.not_false, Bool.false_and, Bool.and_false, Bool.true_and, Bool.and_true], rfl⟩
  by_cases a5 : 256 < n.ef
  · refine Q.r ?_; (repeat (intro b1; refine Q.r ?_)); refine S.y (Y.max3 rfl rfl rfl) ?_; (refine Q.r ?_; (repeat (intro b1; refine Q.r ?_))); refine S.y (Y.min4 rfl rfl rfl rfl) ?_; (refine Q.r ?_; (repeat (intro b1; refine Q.r ?_)))
    exact N.r1 (RV.tmp rfl RV.nil) (Ent.drop (Ent.refl _)) ⟨by simp only [decide_eq_true a5, Bool.or_true, Bool.true_or, Bool.or_false, Bool.false_or, Bool.not_true, Bool.not_false, Bool.false_and, Bool.and_false, Bool.true_and, Bool.and_true], rfl⟩
  by_cases a6 : 16 ≤ n.who
  · refine Q.r ?_; (repeat (intro b1; refine Q.r ?_)); refine S.y (Y.max3 rfl rfl rfl) ?_; (refine Q.r ?_; (repeat (intro b1; refine Q.r ?_))); refine S.y (Y.min4 rfl rfl rfl rfl) ?_; (refine Q.r ?_; (repeat (intro b1; refine Q.r ?_)))
    exact N.r1 (RV.tmp rfl RV.nil) (Ent.drop (Ent.refl _)) ⟨by simp only [decide_eq_true a6, Bool.or_true, Bool.true_or, Bool.or_false, Bool.false_or, Bool.not_true, Bool.not_false, Bool.false_and, Bool.and_false, Bool.true_and, Bool.and_true], rfl⟩
  by_cases a7 : 13 < n.code
  · refine Q.r ?_; (repeat (intro b1; refine Q.r ?_)); refine S.y (Y.max3 rfl rfl rfl) ?_; (refine Q.r ?_; (repeat (intro b1; refine Q.r ?_))); refine S.y (Y.min4 rfl rfl rfl rfl) ?_; (refine Q.r ?_; (repeat (intro b1; refine Q.r ?_)))
    exact N.r1 (RV.tmp rfl RV.nil) (Ent.drop (Ent.refl _)) ⟨by simp only [decide_eq_true a7, Bool.or_true, Bool.true_or, Bool.or_false, Bool.false_or, Bool.not_true, Bool.not_false, Bool.false_and, Bool.and_false, Bool.true_and, Bool.and_true], rfl⟩
  by_cases q1 : 4 < n.parts.length
  · refine Q.r ?_; (repeat (intro b1; refine Q.r ?_)); refine S.y (Y.max3 rfl rfl rfl) ?_; (refine Q.r ?_; (repeat (intro b1; refine Q.r ?_))); refine S.y (Y.min4 rfl rfl rfl rfl) ?_; (refine Q.r ?_; (repeat (intro b1; refine Q.r ?_)))
    exact N.r1 (RV.tmp rfl RV.nil) (Ent.drop (Ent.refl _)) ⟨by simp only [decide_eq_true q1, Bool.or_true, Bool.true_or, Bool.or_false, Bool.false_or, Bool.not_true, Bool.not_false, Bool.false_and, Bool.and_false, Bool.true_and, Bool.and_true], rfl⟩
  by_cases q2 : 16 < n.ops.length
  · refine Q.r ?_; (repeat (intro b1; refine Q.r ?_)); refine S.y (Y.max3 rfl rfl rfl) ?_; (refine Q.r ?_; (repeat (intro b1; refine Q.r ?_))); refine S.y (Y.min4 rfl rfl rfl rfl) ?_; (refine Q.r ?_; (repeat (intro b1; refine Q.r ?_)))
    exact N.r1 (RV.tmp rfl RV.nil) (Ent.drop (Ent.refl _)) ⟨by simp only [decide_eq_true q2, Bool.or_true, Bool.true_or, Bool.or_false, Bool.false_or, Bool.not_true, Bool.not_false, Bool.false_and, Bool.and_false, Bool.true_and, Bool.and_true], rfl⟩
  by_cases q3 : 16 < n.hits.length
  · refine Q.r ?_; (repeat (intro b1; refine Q.r ?_)); refine S.y (Y.max3 rfl rfl rfl) ?_; (refine Q.r ?_; (repeat (intro b1; refine Q.r ?_))); refine S.y (Y.min4 rfl rfl rfl rfl) ?_; (refine Q.r ?_; (repeat (intro b1; refine Q.r ?_)))
    exact N.r1 (RV.tmp rfl RV.nil) (Ent.drop (Ent.refl _)) ⟨by simp only [decide_eq_true q3, Bool.or_true, Bool.true_or, Bool.or_false, Bool.false_or, Bool.not_true, Bool.not_false, Bool.false_and, Bool.and_false, Bool.true_and, Bool.and_true], rfl⟩
  refine Q.r ?_; (repeat (intro b1; refine Q.r ?_)); refine S.y (Y.max3 rfl rfl rfl) ?_; (refine Q.r ?_; (repeat (intro b1; refine Q.r ?_))); refine S.y (Y.min4 rfl rfl rfl rfl) ?_; (refine Q.r ?_; (repeat (intro b1; refine Q.r ?_)))
  refine S.cr rfl (bare_spec n.va n.vc n.vec _ h.v.sub hk.v) ?_
  rintro _ _ ⟨rfl, rfl⟩
  cases hbv : bareV n.vec with
  | false =>
    refine Q.r ?_; (repeat (intro b1; refine Q.r ?_))
    exact N.r1 (RV.tmp rfl RV.nil) (Ent.drop (Ent.refl _)) ⟨by simp only [Bool.or_true, Bool.true_or, Bool.or_false, Bool.false_or, Bool.not_true, Bool.not_false, Bool.false_and, Bool.and_false, Bool.true_and, Bool.and_true], rfl⟩
  | true =>
  simp only [decide_eq_false a1, decide_eq_false a2, decide_eq_false a3, decide_eq_false a4, decide_eq_false a5, decide_eq_false a6, decide_eq_false a7, decide_eq_false q1, decide_eq_false q2, decide_eq_false q3, Bool.or_true, Bool.true_or, Bool.or_false, Bool.false_or, Bool.not_true, Bool.not_false, Bool.false_and, Bool.and_false, Bool.true_and, Bool.and_true]
  clear a1 a2 a3 a4 a5 a6 a7
  refine Q.r ?_; (repeat (intro b1; refine Q.r ?_))
  refine swp_cutB (σ := Unit) (fun _ => [(1, .pointer (some ⟨b1, 0, none⟩))]) (fun _ => pt b1 (cl n.cells 57) :: A) (fun _ => partsV n.parts = true) ?_ ?_
  · refine swp_loop (σ := Nat) (fun k => [(1, .pointer (some ⟨b1, 0, none⟩)), (74, .slice n.pa n.parts.length n.pc), (75, .int .i64 n.parts.length), (76, .int .i64 k)])
      (fun _ => pt b1 (cl n.cells 57) :: A) (fun k => k ≤ n.parts.length ∧ (List.range k).all (okP n.parts) = true) (fun k => n.parts.length - k) 0 ⟨rfl, rfl, rfl, rfl, trivial⟩ (Ent.refl _) ⟨by omega, rfl⟩ ?_
    rintro k ⟨hk1, hk2⟩
    by_cases hlt : k < n.parts.length
    · obtain ⟨p, hp⟩ := mem_get hlt
      obtain ⟨bp, op, hpa, hr⟩ := RdS.elem (g := fun z => [I64 z]) (fun _ => rfl) (by rw [flat_I64]; exact h.p) hp rfl
      have hgp : n.parts.getD k 0 = p := by rw [List.getD_eq_getElem?_getD, hp]; rfl
      have hfail : okP n.parts k = false → partsV n.parts = false := fun hh => by
        unfold partsV
        rw [List.all_eq_false]
        exact ⟨k, List.mem_range.2 hlt, by rw [hh]; decide⟩
      rw [hpa]
      by_cases e1 : p < 0
      · repeat (first | refine S.y (Y.ldRj rfl (by first | assumption | exact RdC.sub (by assumption)) rfl) ?_ | (refine GQ.y ?_; refine Q.y ?_) | refine Q.go ?_ | (refine GQ.g ?_; refine Q.gq ?_) | (refine GQ.s ?_; refine Q.st ?_) | (refine GQ.g ?_; refine Q.gd ?_) | refine Q.ct rfl ?_ | refine Q.cf rfl ?_ | (refine GQ.a ?_; refine Q.al (fun b1 => ?_)))
        exact N.r1 (RV.tmp rfl RV.nil) (Ent.drop (Ent.refl _)) ⟨by rw [hfail (by unfold okP; rw [hgp, decide_eq_false (by omega : ¬ 0 ≤ p)]; rfl)]; rfl, rfl⟩
      by_cases e2 : 16 ≤ p
      · repeat (first | refine S.y (Y.ldRj rfl (by first | assumption | exact RdC.sub (by assumption)) rfl) ?_ | (refine GQ.y ?_; refine Q.y ?_) | refine Q.go ?_ | (refine GQ.g ?_; refine Q.gq ?_) | (refine GQ.s ?_; refine Q.st ?_) | (refine GQ.g ?_; refine Q.gd ?_) | refine Q.ct rfl ?_ | refine Q.cf rfl ?_ | (refine GQ.a ?_; refine Q.al (fun b1 => ?_)))
        exact N.r1 (RV.tmp rfl RV.nil) (Ent.drop (Ent.refl _)) ⟨by rw [hfail (by unfold okP; rw [hgp, decide_eq_false (by omega : ¬ p < 16), Bool.and_false]; rfl)]; rfl, rfl⟩
      by_cases e3 : k = 0
      · subst e3
        repeat (first | refine S.y (Y.ldRj rfl (by first | assumption | exact RdC.sub (by assumption)) rfl) ?_ | (refine GQ.y ?_; refine Q.y ?_) | refine Q.go ?_ | (refine GQ.g ?_; refine Q.gq ?_) | (refine GQ.s ?_; refine Q.st ?_) | (refine GQ.g ?_; refine Q.gd ?_) | refine Q.ct rfl ?_ | refine Q.cf rfl ?_ | (refine GQ.a ?_; refine Q.al (fun b1 => ?_)))
        exact ⟨1, ⟨by rw [← hpa]; rfl, by rw [← hpa]; rfl, rfl, rfl, trivial⟩, Ent.refl _, ⟨by omega, by rw [show List.range (0 + 1) = [0] from rfl, List.all_cons, List.all_nil]; unfold okP; rw [hgp, decide_eq_true (by omega : (0 : Int) ≤ p), decide_eq_true (by omega : p < 16)]; rfl⟩, by omega⟩
      · obtain ⟨q, hq⟩ := mem_get (l := n.parts) (show k - 1 < n.parts.length by omega)
        obtain ⟨bq, oq, hqa, hr2⟩ := RdS.elem (g := fun z => [I64 z]) (fun _ => rfl) (by rw [flat_I64]; exact h.p) hq rfl
        have hgq : n.parts.getD (k - 1) 0 = q := by rw [List.getD_eq_getElem?_getD, hq]; rfl
        by_cases e4 : p ≤ q
        · repeat (first | refine S.y (Y.ldRj rfl (by first | assumption | exact RdC.sub (by assumption)) rfl) ?_ | refine Q.yn ?_ | refine S.stI rfl rfl (by first | omega | (rw [Array.size_setIfInBounds]; omega)) ?_ | (refine GQ.y ?_; refine Q.y ?_) | refine Q.go ?_ | (refine GQ.g ?_; refine Q.gq ?_) | (refine GQ.s ?_; refine Q.st ?_) | (refine GQ.g ?_; refine Q.gd ?_) | refine Q.ct rfl ?_ | refine Q.cf rfl ?_ | (refine GQ.a ?_; refine Q.al (fun b1 => ?_)))
          rw [hqa]
          repeat (first | refine S.y (Y.ldRj rfl (by first | assumption | exact RdC.sub (by assumption)) rfl) ?_ | refine Q.yn ?_ | refine S.stI rfl rfl (by first | omega | (rw [Array.size_setIfInBounds]; omega)) ?_ | (refine GQ.y ?_; refine Q.y ?_) | refine Q.go ?_ | (refine GQ.g ?_; refine Q.gq ?_) | (refine GQ.s ?_; refine Q.st ?_) | (refine GQ.g ?_; refine Q.gd ?_) | refine Q.ct rfl ?_ | refine Q.cf rfl ?_ | (refine GQ.a ?_; refine Q.al (fun b1 => ?_)))
          exact N.r1 (RV.tmp rfl RV.nil) (Ent.drop (Ent.refl _)) ⟨by rw [hfail (by unfold okP; rw [hgp, hgq, decide_eq_false e3, decide_eq_false (by omega : ¬ q < p), Bool.or_false, Bool.and_false])]; rfl, rfl⟩
        · repeat (first | refine S.y (Y.ldRj rfl (by first | assumption | exact RdC.sub (by assumption)) rfl) ?_ | refine Q.yn ?_ | refine S.stI rfl rfl (by first | omega | (rw [Array.size_setIfInBounds]; omega)) ?_ | (refine GQ.y ?_; refine Q.y ?_) | refine Q.go ?_ | (refine GQ.g ?_; refine Q.gq ?_) | (refine GQ.s ?_; refine Q.st ?_) | (refine GQ.g ?_; refine Q.gd ?_) | refine Q.ct rfl ?_ | refine Q.cf rfl ?_ | (refine GQ.a ?_; refine Q.al (fun b1 => ?_)))
          rw [hqa]
          repeat (first | refine S.y (Y.ldRj rfl (by first | assumption | exact RdC.sub (by assumption)) rfl) ?_ | refine Q.yn ?_ | refine S.stI rfl rfl (by first | omega | (rw [Array.size_setIfInBounds]; omega)) ?_ | (refine GQ.y ?_; refine Q.y ?_) | refine Q.go ?_ | (refine GQ.g ?_; refine Q.gq ?_) | (refine GQ.s ?_; refine Q.st ?_) | (refine GQ.g ?_; refine Q.gd ?_) | refine Q.ct rfl ?_ | refine Q.cf rfl ?_ | (refine GQ.a ?_; refine Q.al (fun b1 => ?_)))
          refine ⟨k + 1, ⟨rfl, by first | rfl | (rw [← hqa]; rfl) | (rw [← hpa]; rfl) | (rw [hqa]; rfl) | (rw [hpa]; rfl), rfl, rfl, trivial⟩, Ent.refl _, ⟨by omega, ?_⟩, by omega⟩
          rw [List.range_succ, List.all_append, hk2, List.all_cons, List.all_nil]
          unfold okP
          rw [hgp, hgq, decide_eq_true (by omega : (0 : Int) ≤ p), decide_eq_true (by omega : p < 16), decide_eq_true (by omega : q < p), Bool.or_true]; rfl
    · have : k = n.parts.length := by omega
      subst this
      refine Q.r ?_; (repeat (intro b1; refine Q.r ?_))
      exact ⟨(), ⟨rfl, trivial⟩, Ent.refl _, hk2⟩
  · rintro _ hp
    refine Q.r ?_; (repeat (intro b1; refine Q.r ?_))
    refine S.cr rfl (HasO_spec 152 [] [] (fun o => badOp o.abs) n.oa n.oc n.ops _ h.o.1.sub (by have := hk.o; omega) (fun o ho => bad1_spec o _ ((h.o.2 o ho).sub) (hk.ov o ho))) ?_
    rintro _ _ ⟨rfl, rfl⟩
    cases hop : n.ops.any fun o => badOp o.abs with
    | true =>
      refine Q.r ?_; (repeat (intro b1; refine Q.r ?_))
      exact N.r1 (RV.tmp rfl RV.nil) (Ent.drop (Ent.refl _)) ⟨by simp only [Bool.or_true, Bool.true_or, Bool.or_false, Bool.false_or, Bool.not_true, Bool.not_false, Bool.false_and, Bool.and_false, Bool.true_and, Bool.and_true], rfl⟩
    | false =>
      refine Q.r ?_; (repeat (intro b1; refine Q.r ?_))
      refine S.cr rfl (HasH_spec 154 [] [] (fun o => badHit o.abs) n.ha n.hc n.hits _ h.h.sub (by have := hk.h; omega) (fun o ho => bad2_spec o _ ((h.hv o ho).sub) (hk.hv o ho))) ?_
      rintro _ _ ⟨rfl, rfl⟩
      refine Q.r ?_; (repeat (intro b1; refine Q.r ?_))
      exact N.r1 (RV.tmp rfl RV.nil) (Ent.drop (Ent.refl _)) ⟨by simp only [hp, Bool.or_true, Bool.true_or, Bool.or_false, Bool.false_or, Bool.not_true, Bool.not_false, Bool.false_and, Bool.and_false, Bool.true_and, Bool.and_true], rfl⟩
end Go.Proofs.YtjidejcehmamkaaGreatDoor
namespace Go.Proofs.YtjidejcehmamkaaGreatDoor
open Go Go.SX
attribute [local irreducible] swp opsS thenS blockS retS CallsS St Ent YieldS anyS drawS
abbrev ST := List UInt8 × Nat
abbrev ST.cells (p : ST) : List Value := [str p.1, .int .i64 (p.2 : Int)]
def sortsT : List ST := [([], 0), ([65, 115, 107], 4098), ([82, 101, 112, 108, 121], 518), ([80, 114, 101, 112, 97, 114, 101], 6153), ([86, 111, 116, 101], 513), ([68, 101, 99, 105, 100, 101], 517), ([65, 99, 107], 1), ([80, 114, 111, 98, 101], 1), ([81, 117, 101, 114, 121], 8672), ([76, 111, 111, 107], 8692), ([83, 101, 101, 110], 16928), ([82, 101, 115, 117, 108, 116], 16932), ([80, 114, 101, 112, 97, 114, 101, 100], 6153), ([67, 111, 109, 109, 105, 116, 116, 101, 100], 5), ([65, 98, 111, 114, 116, 101, 100], 1), ([83, 119, 101, 112, 116], 16), ([69, 112, 111, 99, 104], 16), ([67, 111, 109, 109, 105, 116], 2055), ([69, 110, 100], 1), ([66, 101, 103, 105, 110], 7179), ([89, 101, 115], 1025), ([65, 99, 107, 101, 100], 1025), ([71, 111, 110, 101], 1)]
def sortsC : List Value := sortsT.flatMap ST.cells
def sortT (k : Nat) : ST := (sortsT[k]?).getD ([], 0)
theorem sort_fld (k : Nat) : (sortT k).2 = fldN k := by
  by_cases h : k < 23
  · exact (by decide : ∀ k, k < 23 → (sortT k).2 = fldN k) k h
  · have h1 : sortT k = ([], 0) := by
      unfold sortT
      rw [List.getElem?_eq_none (by show 23 ≤ k; omega)]; rfl
    rw [h1]
    unfold fldN
    split <;> first | omega | rfl
theorem sort_name (k : Nat) : (decide ((sortT k).1 = [])) = !decide (1 ≤ k ∧ k ≤ 22) := by
  by_cases h : k < 23
  · exact (by decide : ∀ k, k < 23 → (decide ((sortT k).1 = [])) = !decide (1 ≤ k ∧ k ≤ 22)) k h
  · have h1 : sortT k = ([], 0) := by
      unfold sortT
      rw [List.getElem?_eq_none (by show 23 ≤ k; omega)]; rfl
    rw [h1, decide_eq_false (by omega : ¬ (1 ≤ k ∧ k ≤ 22))]; rfl
theorem sorted_spec (k : Nat) (A : List HP) (hT : RdC A 0 0 sortsC) (hk : k ≤ 255) :
    CallsS Tryz.prog 106 [.int .u8 (k : Int)] A (fun r L' => r = .agg (ST.cells (sortT k)).toArray ∧ L' = A) := by
  refine CallsS.of_body Tryz.func106 rfl rfl rfl ?_
  by_cases h : 23 ≤ k
  · have h1 : sortT k = ([], 0) := by
      unfold sortT
      rw [List.getElem?_eq_none (by show 23 ≤ k; omega)]; rfl
    rw [h1]
    refine Q.r ?_; (repeat (intro b1; refine Q.r ?_))
    refine S.y (Y.cvi rfl) ?_
    rw [wrap_i64 (by omega) (by omega)]
    refine Q.r ?_; (repeat (intro b1; refine Q.r ?_))
    exact N.r1 (by apply RV.cellN; rfl; exact RdC.row; rfl; exact RV.nil) (Ent.drop (Ent.refl _)) ⟨rfl, rfl⟩
  · have hs : sortsT[k]? = some (sortT k) := by
      unfold sortT
      rw [List.getElem?_eq_getElem (show k < sortsT.length by show k < 23; omega)]; rfl
    have hr : RdC A 0 (0 + k * 2) (ST.cells (sortT k)) := hT.part fun j v e => flat_get (g := ST.cells) (fun _ => rfl) sortsT k j _ v hs e
    refine Q.r ?_; (repeat (intro b1; refine Q.r ?_))
    refine S.y (Y.cvi rfl) ?_
    rw [wrap_i64 (by omega) (by omega)]
    refine Q.rn ?_; (repeat (intro b1; refine Q.rn ?_))
    exact N.r1 (by apply RV.cellN; rfl; exact RdC.row; rfl; exact RV.nil) (Ent.drop (Ent.refl _)) ⟨rfl, rfl⟩
theorem testBit_bitsN : ∀ (l : List Bool) (i : Nat), (bitsN l).testBit i = l.getD i false
  | [], i => by simp [bitsN]
  | b :: l, 0 => by
    unfold bitsN
    rw [Nat.testBit_zero]
    cases b <;> simp [Nat.add_mod]
  | b :: l, i + 1 => by
    unfold bitsN
    rw [Nat.testBit_succ, List.getD_cons_succ, ← testBit_bitsN l i]
    congr 1
    cases b <;> simp <;> omega
theorem i64_and (a f : Nat) (ha : a < 2 ^ 15) : IntKind.i64.wrap (((BitVec.ofInt IntKind.i64.bits (a : Int)) &&& ~~~(BitVec.ofInt IntKind.i64.bits (f : Int))).toNat : Int) = (((BitVec.ofNat 64 a &&& ~~~ BitVec.ofNat 64 f).toNat : Nat) : Int) := by
  have e : ∀ x : Nat, BitVec.ofInt IntKind.i64.bits (x : Int) = BitVec.ofNat 64 x := fun x => by
    show BitVec.ofInt 64 (x : Int) = _
    rw [BitVec.ofInt_natCast]
  rw [e, e]
  have h : (BitVec.ofNat 64 a &&& ~~~ BitVec.ofNat 64 f).toNat ≤ a := by
    rw [BitVec.toNat_and]
    refine Nat.le_trans Nat.and_le_left ?_
    simp; omega
  show IntKind.i64.wrap (((BitVec.ofNat 64 a &&& ~~~ BitVec.ofNat 64 f).toNat : Nat) : Int) = _
  exact wrap_i64 (by omega) (by omega)
theorem held_fits (n : NA) (f : Nat) : decide ((((BitVec.ofNat 64 (bitsN n.bits) &&& ~~~ BitVec.ofNat 64 f).toNat : Nat) : Int) = 0) = n.bits.zipIdx.all fun b => !b.1 || f.testBit b.2 := by
  have hl : n.bits.length = 15 := rfl
  rw [Bool.eq_iff_iff, decide_eq_true_iff, List.all_eq_true]
  constructor
  · intro h b hb
    obtain ⟨x, i⟩ := b
    have hi := List.mem_zipIdx_iff_getElem?.1 hb
    dsimp only at hi ⊢
    cases x with
    | false => rfl
    | true =>
      have hlt : i < 15 := by rw [← hl]; exact (List.getElem?_eq_some_iff.1 hi).1
      have h0 : (BitVec.ofNat 64 (bitsN n.bits) &&& ~~~ BitVec.ofNat 64 f) = 0#64 := BitVec.eq_of_toNat_eq (by simpa using h)
      have h1 := congrArg (fun v : BitVec 64 => v.getLsbD i) h0
      simp only [BitVec.getLsbD_and, BitVec.getLsbD_not, BitVec.getLsbD_ofNat] at h1
      rw [testBit_bitsN, List.getD_eq_getElem?_getD, hi] at h1
      simp [show i < 64 by omega] at h1
      simpa using h1
  · intro h
    have h0 : (BitVec.ofNat 64 (bitsN n.bits) &&& ~~~ BitVec.ofNat 64 f) = 0#64 := by
      apply BitVec.eq_of_getLsbD_eq
      intro i hi
      simp only [BitVec.getLsbD_and, BitVec.getLsbD_not, BitVec.getLsbD_ofNat, BitVec.getLsbD_zero]
      rw [testBit_bitsN, List.getD_eq_getElem?_getD]
      cases hb : n.bits[i]? with
      | none => simp
      | some b =>
        have := h (b, i) (List.mem_zipIdx_iff_getElem?.2 hb)
        dsimp only at this
        cases b with
        | false => simp
        | true => simp at this; simp [this, hi]
    rw [h0]; rfl
set_option maxHeartbeats 1000000 in
theorem NRight_spec (n : NV) (A : List HP) (h : RdN A n) (hk : OkN n) (hT : RdC A 0 0 sortsC) (h0 : 0 ≤ n.kind ∧ n.kind ≤ 255) :
    CallsS Tryz.prog 40 [n.val] A (fun r L' => r = .bool (rightN n.abs) ∧ L' = A) := by
  obtain ⟨k, hkk⟩ : ∃ k : Nat, n.kind = (k : Int) := ⟨n.kind.toNat, by omega⟩
  have hbd : bitsN n.bits < 2 ^ 15 := bitsN_lt n.bits
  have hE : rightN n.abs = ((!decide ((sortT k).1 = [])) && decide ((((BitVec.ofNat 64 (bitsN n.bits) &&& ~~~ BitVec.ofNat 64 (sortT k).2).toNat : Nat) : Int) = 0) && boundN n.abs) := by
    have := held_fits n.abs (sortT k).2
    rw [NV.bits_abs] at this
    unfold rightN
    rw [NV.bits_abs, this, sort_name, sort_fld, Bool.not_not]
    show (decide (1 ≤ n.kind ∧ n.kind ≤ 22) && (n.bits.zipIdx.all fun b => !b.1 || (fldN n.kind.toNat).testBit b.2) && boundN n.abs) = _
    rw [hkk, Int.toNat_natCast, show decide (1 ≤ (k : Int) ∧ (k : Int) ≤ 22) = decide (1 ≤ k ∧ k ≤ 22) from by congr 1; simp; omega]
  rw [hE]
  clear hE
  refine CallsS.of_body Tryz.func40 rfl rfl rfl ?_
  refine Q.r ?_; (repeat (intro b1; refine Q.r ?_))
  refine S.cr (args := [.int .u8 (k : Int)]) (by rw [← hkk]; rfl) (sorted_spec k _ hT.sub (by omega)) ?_
  rintro _ _ ⟨rfl, rfl⟩
  by_cases hn : (sortT k).1 = []
  · rw [decide_eq_true hn]
    refine Q.r ?_; (repeat (intro b1; refine Q.r ?_))
    refine Q.dgo [true, true] [5, 13] [] [0, 1, 2, 3, 4, 6, 7, 5, 8, 9, 10, 11, 12, 13, 14, 15] ?_
    refine Q.rd ?_; (repeat (intro b1; refine Q.rd ?_))
    refine Q.r ?_; (repeat (intro b1; refine Q.r ?_))
    exact N.r1 (RV.tmp rfl RV.nil) (Ent.drop (Ent.drop (Ent.refl _))) ⟨by simp only [Bool.not_true, Bool.false_and], rfl⟩
  rw [decide_eq_false hn]
  refine Q.r ?_; (repeat (intro b1; refine Q.r ?_))
  refine Q.dgo [true, true] [5, 13] [] [0, 1, 2, 3, 4, 6, 7, 5, 8, 9, 10, 11, 12, 13, 14, 15] ?_
  refine Q.rd ?_; (repeat (intro b1; refine Q.rd ?_))
  refine D.e rfl rfl rfl ?_
  refine S.guard rfl ?_
  refine S.cr rfl (held_spec n _) ?_
  rintro _ _ ⟨rfl, rfl⟩
  refine Q.r ?_; (repeat (intro b1; refine Q.r ?_))
  refine D.y rfl rfl rfl (by kernel_rfl) (Y.guard rfl (Y.andNot rfl rfl)) ?_
  rw [i64_and _ _ hbd]
  generalize (BitVec.ofNat 64 (bitsN n.bits) &&& ~~~ BitVec.ofNat 64 (sortT k).2).toNat = z
  by_cases hz : (z : Int) = 0
  · rw [decide_eq_true hz]
    refine Q.rd ?_; (repeat (intro b1; refine Q.rd ?_))
    refine D.e rfl rfl rfl ?_
    refine S.guard rfl ?_
    refine S.cr rfl (bounded_spec n _ h hk) ?_
    rintro _ _ ⟨rfl, rfl⟩
    refine Q.r ?_; (repeat (intro b1; refine Q.r ?_))
    refine Q.rd ?_; (repeat (intro b1; refine Q.rd ?_))
    refine Q.r ?_; (repeat (intro b1; refine Q.r ?_))
    exact N.r1 (RV.tmp rfl RV.nil) (Ent.drop (Ent.drop (Ent.refl _))) ⟨by simp only [Bool.not_false, Bool.true_and], rfl⟩
  · rw [decide_eq_false hz]
    refine Q.rd ?_; (repeat (intro b1; refine Q.rd ?_))
    refine Q.r ?_; (repeat (intro b1; refine Q.r ?_))
    exact N.r1 (RV.tmp rfl RV.nil) (Ent.drop (Ent.drop (Ent.refl _))) ⟨by simp only [Bool.not_false, Bool.and_false, Bool.false_and], rfl⟩
end Go.Proofs.YtjidejcehmamkaaGreatDoor
namespace Go.Proofs.YtjidejcehmamkaaGreatDoor
open Go Go.SX
structure JS where
  v : VS
  parts : List (Int × List Int)
  done : List (Int × Int)
structure PA where
  rec_ : List NA
  mail : List (Int × NA)
  els : List (Int × NA)
def PA.none : PA := ⟨[], [], []⟩
abbrev voteN (txn code : Int) : Int × NA := (0, { NA.zero with kind := 4, txn := txn, code := code })
def takenV (st : VS) (ops : VL) : Bool := st.its.any fun i => i.2.2.any fun o => holdsV ops o.1
def aboveV (st : VS) (s : Int) (ops : VL) : Bool := !st.ch.any fun c => decide (s ≤ lastS c.2) && holdsV ops c.1
def prepV (j : JS) (n : NA) : PA :=
  if (lkL j.done n.txn).isSome ∨ checkV j.v.dim n.ops ≠ 0 then PA.none
  else if (lkL j.v.its n.txn).isSome then ⟨[], [voteN n.txn 0], []⟩
  else if takenV j.v n.ops then ⟨[], [voteN n.txn 11], []⟩
  else ⟨[{ n with kind := 12 }], [voteN n.txn 0], [voteN n.txn 8]⟩
abbrev ackN (txn : Int) : Int × NA := (0, { NA.zero with kind := 6, txn := txn })
def deciV (j : JS) (from_ : Int) (n : NA) : PA :=
  if n.code ≠ 0 then if (lkL j.v.its n.txn).isSome ∧ from_ = 0 then ⟨[{ NA.zero with kind := 14, txn := n.txn }], [], []⟩ else PA.none
  else match lkL j.done n.txn with
    | some s => if s = n.stamp then ⟨[], [ackN n.txn], []⟩ else PA.none
    | none => match lkL j.v.its n.txn with
      | some i => if max i.1 j.v.mark < n.stamp ∧ aboveV j.v n.stamp i.2 = true then ⟨[{ NA.zero with kind := 13, txn := n.txn, stamp := n.stamp }], [ackN n.txn], []⟩ else PA.none
      | none => PA.none
def planV (j : JS) (from_ : Int) (n : NA) : PA :=
  if rightN n = false then PA.none
  else if n.kind = 3 then if from_ = 0 then prepV j n else PA.none
  else if n.kind = 5 then deciV j from_ n
  else if n.kind = 7 then match lkL j.done n.txn with
    | some s => ⟨[], [(from_, { NA.zero with kind := 5, txn := n.txn, stamp := s })], []⟩
    | none => PA.none
  else PA.none
def appE (j : JS) (n : NA) : Int :=
  if rightN n = false then 4
  else if n.kind = 12 then lockE j.v n.txn n.after n.ops
  else if n.kind = 13 then applyE j.v n.txn n.stamp
  else if n.kind = 14 then if (lkL j.v.its n.txn).isSome then 0 else 6
  else if n.kind = 15 then 0
  else 4
def appS (j : JS) (n : NA) : JS :=
  if appE j n ≠ 0 then j
  else if n.kind = 12 then ⟨lockS j.v n.txn n.after n.ops, putL j.parts n.txn n.parts, j.done⟩
  else if n.kind = 13 then ⟨applyS j.v n.txn n.stamp, delL j.parts n.txn, putL j.done n.txn n.stamp⟩
  else if n.kind = 14 then ⟨{ j.v with its := delL j.v.its n.txn }, delL j.parts n.txn, j.done⟩
  else if n.kind = 15 then ⟨sweepS j.v n.mark, j.parts, j.done⟩
  else j
structure JOK (j : JS) (n : Nat) : Prop where
  w : WFK j.v n
  kp : keysOK j.parts
  kd : keysOK j.done
  o : ∀ t s, lkL j.done t = some s → lkL j.v.its t = none
  p : ∀ t s, lkL j.done t = some s → 0 < s
  m : 0 ≤ j.v.mark
  ne : ∀ c ∈ j.v.ch, 0 < c.2.length
theorem right_abort {t : Int} (h : 0 ≤ t) : rightN { NA.zero with kind := 14, txn := t } = true := by
  unfold rightN boundN NA.bits NA.zero bareV
  by_cases h0 : 0 < t
  · simp [h0, List.zipIdx, fldN, partsV]
  · simp [h0, List.zipIdx, fldN, partsV]
theorem right_commit {t s : Int} (h2 : s ≤ 1099511627776) : rightN { NA.zero with kind := 13, txn := t, stamp := s } = true := by
  unfold rightN boundN NA.bits NA.zero bareV
  by_cases h0 : 0 < t <;> by_cases h1 : 0 < s <;> simp [h0, h1, List.zipIdx, fldN, partsV] <;> first | omega | (refine ⟨?_, ?_⟩ <;> first | decide | omega)
theorem right_prep {n : NA} (h : rightN n = true) (hk : n.kind = 3) : rightN { n with kind := 12 } = true := by
  unfold rightN at h ⊢
  rw [hk] at h
  exact h
theorem right_bound {n : NA} (h : rightN n = true) : n.stamp ≤ 1099511627776 ∧ n.after ≤ 1099511627776 ∧ n.mark ≤ 1099511627776 := by
  unfold rightN boundN at h
  simp only [Bool.and_eq_true, Bool.not_eq_true', Bool.or_eq_false_iff, decide_eq_false_iff_not] at h
  omega
end Go.Proofs.YtjidejcehmamkaaGreatDoor
namespace Go.Proofs.YtjidejcehmamkaaGreatDoor
open Go Go.SX
theorem isSome_ne {α : Type} {o : Option α} (h : ¬ o.isSome = true) : o = none := by cases o with
  | none => rfl
  | some a => exact absurd rfl h
theorem lkL_snoc {κ α : Type} [DecidableEq κ] {m : List (κ × α)} {x y : κ} {a : α} (h : lkL m x = none) : lkL (m ++ [(x, a)]) y = if y = x then some a else lkL m y := by
  have hm := lk_none' h
  by_cases hy : y = x
  · subst hy
    rw [if_pos rfl]
    exact lkL_mid (q := []) hm
  · rw [if_neg hy]
    unfold lkL
    rw [List.find?_append]
    have : (List.find? (fun p : κ × α => decide (p.1 = y)) [(x, a)]) = none := by simp [Ne.symm hy]
    rw [this, Option.or_none]
theorem lkL_delE {κ α : Type} [DecidableEq κ] (m : List (κ × α)) (x : κ) : lkL (delL m x) x = none := lkL_none fun u hu => by
  have := (List.mem_filter.1 hu).2
  simpa using this
theorem lkL_delI {κ α : Type} [DecidableEq κ] {m : List (κ × α)} (x y : κ) : lkL (delL m x) y = if y = x then none else lkL m y := by
  by_cases hy : y = x
  · subst hy; rw [if_pos rfl, lkL_delE]
  · rw [if_neg hy, lkL_del x y hy]
theorem taken_lock {st : VS} {ops : VL} (h : takenV st ops = false) : (ops.any fun o => st.its.any fun i => holdsV i.2.2 o.1) = false := by
  rw [List.any_eq_false]
  intro o ho hh
  obtain ⟨i, hi, hx⟩ := List.any_eq_true.1 hh
  unfold holdsV at hx
  obtain ⟨u, hu, hux⟩ := List.any_eq_true.1 hx
  have hux := of_decide_eq_true hux
  have : takenV st ops = true := by
    unfold takenV
    refine List.any_eq_true.2 ⟨i, hi, List.any_eq_true.2 ⟨u, hu, ?_⟩⟩
    unfold holdsV
    exact List.any_eq_true.2 ⟨o, ho, decide_eq_true hux.symm⟩
  rw [h] at this; cases this
theorem prep_lock {j : JS} {n : NA} (ha : n.after ≤ 1099511627776) (hc : checkV j.v.dim n.ops = 0) (hl : lkL j.v.its n.txn = none) (ht : takenV j.v n.ops = false) : lockE j.v n.txn n.after n.ops = 0 := by
  unfold lockE
  rw [if_neg (by omega), if_neg (by simp [hc]), hl, if_neg (by simp), taken_lock ht]
  rfl
theorem above_apply {j : JS} {t s : Int} {i : Int × VL} (hl : lkL j.v.its t = some i) (h1 : max i.1 j.v.mark < s) (hm : 0 ≤ j.v.mark) (h2 : s ≤ 1099511627776) (ha : aboveV j.v s i.2 = true) : applyE j.v t s = 0 := by
  unfold applyE
  rw [hl]
  dsimp only
  rw [if_neg (by omega)]
  have hno : (i.2.any fun o => decide (s ≤ lastS (chV j.v.ch o.1))) = false := by
    rw [List.any_eq_false]
    intro o ho hh
    have hh := of_decide_eq_true hh
    unfold chV at hh
    cases hz : lkL j.v.ch o.1 with
    | none =>
      rw [hz] at hh
      have : lastS ([] : VL) = 0 := rfl
      rw [Option.getD_none, this] at hh
      omega
    | some w =>
      rw [hz, Option.getD_some] at hh
      have hmem := lk_memL hz
      unfold aboveV at ha
      rw [Bool.not_eq_true', List.any_eq_false] at ha
      refine ha _ hmem ?_
      rw [Bool.and_eq_true]
      refine ⟨decide_eq_true hh, ?_⟩
      unfold holdsV
      exact List.any_eq_true.2 ⟨o, ho, decide_eq_true rfl⟩
  rw [hno, if_neg (by simp), if_neg (by omega)]
theorem applyC_ne {s : Int} {ops : VL} {ch : List (Int × VL)} (hk : keysOK ch) (hn : (ops.map (·.1)).Nodup) (h : ∀ c ∈ ch, 0 < c.2.length) : ∀ c ∈ applyC s ch ops, 0 < c.2.length := fun c hc => by
  rcases applyC_mem hk hn hc with hc | ⟨o, ho, rfl⟩
  · exact h c hc
  · simp
structure Once (j : JS) (k : Nat) (n r : NA) : Prop where
  tx : r.txn = n.txn
  nd : lkL j.done n.txn = none
  e : appE j r = 0
  ok : JOK (appS j r) (k + 1)
  rt : rightN r = true
theorem JOK.le {j : JS} {a b : Nat} (h : JOK j a) (hl : a ≤ b) : JOK j b := ⟨h.w.mono hl, h.kp, h.kd, h.o, h.p, h.m, h.ne⟩
theorem once_prep {j : JS} {k : Nat} (hj : JOK j k) {n : NA} (hr : rightN n = true) (hk : n.kind = 3) (hd : lkL j.done n.txn = none) (hc : checkV j.v.dim n.ops = 0) (hl : lkL j.v.its n.txn = none) (ht : takenV j.v n.ops = false) :
    Once j k n { n with kind := 12 } ∧ (appS j { n with kind := 12 }).done = j.done ∧ ∀ t, (lkL (appS j { n with kind := 12 }).v.its t).isSome = true → t = n.txn ∨ (lkL j.v.its t).isSome = true := by
  have hb := right_bound hr
  have hlk := prep_lock (j := j) hb.2.1 hc hl ht
  have hr2 := right_prep hr hk
  have hE : appE j { n with kind := 12 } = 0 := by
    unfold appE
    rw [if_neg (by rw [hr2]; decide), if_pos rfl]
    exact hlk
  have hS : appS j { n with kind := 12 } = ⟨lockS j.v n.txn n.after n.ops, putL j.parts n.txn n.parts, j.done⟩ := by
    unfold appS
    rw [if_neg (by rw [hE]; decide), if_pos rfl]
  have hSv : lockS j.v n.txn n.after n.ops = { j.v with its := j.v.its ++ [(n.txn, n.after, n.ops)] } := by unfold lockS; rw [if_pos hlk]
  refine ⟨⟨rfl, hd, hE, ?_, hr2⟩, by rw [hS], fun t h => ?_⟩
  · rw [hS]
    refine ⟨hj.w.lock _ _ _, putL_ok hj.kp _ _, hj.kd, fun t s h => ?_, hj.p, ?_, ?_⟩
    · dsimp only at h ⊢
      rw [hSv]
      dsimp only
      rw [lkL_snoc hl]
      by_cases ht : t = n.txn
      · subst ht; rw [hd] at h; cases h
      · rw [if_neg ht]; exact hj.o t s h
    · rw [hSv]; exact hj.m
    · rw [hSv]; exact hj.ne
  · rw [hS] at h
    dsimp only at h
    rw [hSv] at h
    dsimp only at h
    rw [lkL_snoc hl] at h
    by_cases ht : t = n.txn
    · exact .inl ht
    · rw [if_neg ht] at h; exact .inr h
abbrev comN (t s : Int) : NA := { NA.zero with kind := 13, txn := t, stamp := s }
abbrev aboN (t : Int) : NA := { NA.zero with kind := 14, txn := t }
theorem once_commit {j : JS} {k : Nat} (hj : JOK j k) {n : NA} (hr : rightN n = true) (hd : lkL j.done n.txn = none) {i : Int × VL} (hl : lkL j.v.its n.txn = some i) (h1 : max i.1 j.v.mark < n.stamp) (ha : aboveV j.v n.stamp i.2 = true) :
    Once j k n (comN n.txn n.stamp) ∧ 0 < n.stamp ∧ (appS j (comN n.txn n.stamp)).done = putL j.done n.txn n.stamp ∧ ∀ t, (lkL (appS j (comN n.txn n.stamp)).v.its t).isSome = true → (lkL j.v.its t).isSome = true := by
  have hb := right_bound hr
  have hm := hj.m
  have hE0 := above_apply hl h1 hj.m hb.1 ha
  have hr2 : rightN (comN n.txn n.stamp) = true := right_commit hb.1
  have hE : appE j (comN n.txn n.stamp) = 0 := by
    unfold appE
    rw [if_neg (by rw [hr2]; decide), if_neg (show ¬ (13 : Int) = 12 by decide), if_pos rfl]
    exact hE0
  have hS : appS j (comN n.txn n.stamp) = ⟨applyS j.v n.txn n.stamp, delL j.parts n.txn, putL j.done n.txn n.stamp⟩ := by
    unfold appS
    rw [if_neg (by rw [hE]; decide), if_neg (show ¬ (13 : Int) = 12 by decide), if_pos rfl]
  have hSv : applyS j.v n.txn n.stamp = { j.v with ch := applyC n.stamp j.v.ch i.2, its := delL j.v.its n.txn } := by unfold applyS; rw [hl]; dsimp only; rw [if_pos hE0]
  have hpos : 0 < n.stamp := by omega
  refine ⟨⟨rfl, hd, hE, ?_, hr2⟩, hpos, by rw [hS], fun t h => ?_⟩
  · rw [hS]
    refine ⟨hj.w.apply _ _, delL_ok hj.kp _, putL_ok hj.kd _ _, fun t s h => ?_, fun t s h => ?_, ?_, ?_⟩
    · dsimp only at h ⊢
      rw [hSv]
      dsimp only
      rw [lkL_put hj.kd] at h
      rw [lkL_delI]
      by_cases ht : t = n.txn
      · rw [if_pos ht]
      · rw [if_neg ht] at h ⊢; exact hj.o t s h
    · dsimp only at h
      rw [lkL_put hj.kd] at h
      by_cases ht : t = n.txn
      · rw [if_pos ht] at h; cases h; exact hpos
      · rw [if_neg ht] at h; exact hj.p t s h
    · rw [hSv]; exact hj.m
    · rw [hSv]
      exact applyC_ne hj.w.k1 (hj.w.wf.io _ (lk_memL hl)).2.1 hj.ne
  · rw [hS] at h
    dsimp only at h
    rw [hSv] at h
    dsimp only at h
    rw [lkL_delI] at h
    by_cases ht : t = n.txn
    · rw [if_pos ht] at h; cases h
    · rw [if_neg ht] at h; exact h
theorem once_abort {j : JS} {k : Nat} (hj : JOK j k) {n : NA} (h0 : 0 ≤ n.txn) (hl : (lkL j.v.its n.txn).isSome = true) :
    Once j k n (aboN n.txn) ∧ (appS j (aboN n.txn)).done = j.done ∧ ∀ t, (lkL (appS j (aboN n.txn)).v.its t).isSome = true → t ≠ n.txn ∧ (lkL j.v.its t).isSome = true := by
  have hd : lkL j.done n.txn = none := by
    cases hz : lkL j.done n.txn with
    | none => rfl
    | some s => rw [hj.o _ _ hz] at hl; cases hl
  have hr2 : rightN (aboN n.txn) = true := right_abort h0
  have hE : appE j (aboN n.txn) = 0 := by
    unfold appE
    rw [if_neg (by rw [hr2]; decide), if_neg (show ¬ (14 : Int) = 12 by decide), if_neg (show ¬ (14 : Int) = 13 by decide), if_pos rfl]
    exact if_pos hl
  have hS : appS j (aboN n.txn) = ⟨{ j.v with its := delL j.v.its n.txn }, delL j.parts n.txn, j.done⟩ := by
    unfold appS
    rw [if_neg (by rw [hE]; decide), if_neg (show ¬ (14 : Int) = 12 by decide), if_neg (show ¬ (14 : Int) = 13 by decide), if_pos rfl]
  refine ⟨⟨rfl, hd, hE, ?_, hr2⟩, by rw [hS], fun t h => ?_⟩
  · rw [hS]
    refine ⟨(hj.w.free _).mono (by omega), delL_ok hj.kp _, hj.kd, fun t s h => ?_, hj.p, hj.m, hj.ne⟩
    dsimp only at h ⊢
    rw [lkL_delI]
    by_cases ht : t = n.txn
    · rw [if_pos ht]
    · rw [if_neg ht]; exact hj.o t s h
  · rw [hS] at h
    dsimp only at h
    rw [lkL_delI] at h
    by_cases ht : t = n.txn
    · rw [if_pos ht] at h; cases h
    · rw [if_neg ht] at h; exact ⟨ht, h⟩
theorem plan_cases {j : JS} {k : Nat} (hj : JOK j k) {n : NA} (h0 : 0 ≤ n.txn) (f : Int) :
    (planV j f n).rec_ = [] ∨
    ((planV j f n).rec_ = [{ n with kind := 12 }] ∧ Once j k n { n with kind := 12 } ∧ (appS j { n with kind := 12 }).done = j.done ∧ ∀ t, (lkL (appS j { n with kind := 12 }).v.its t).isSome = true → t = n.txn ∨ (lkL j.v.its t).isSome = true) ∨
    ((planV j f n).rec_ = [comN n.txn n.stamp] ∧ (lkL j.v.its n.txn).isSome = true ∧ Once j k n (comN n.txn n.stamp) ∧ 0 < n.stamp ∧ (appS j (comN n.txn n.stamp)).done = putL j.done n.txn n.stamp ∧ ∀ t, (lkL (appS j (comN n.txn n.stamp)).v.its t).isSome = true → (lkL j.v.its t).isSome = true) ∨
    ((planV j f n).rec_ = [aboN n.txn] ∧ Once j k n (aboN n.txn) ∧ (appS j (aboN n.txn)).done = j.done ∧ ∀ t, (lkL (appS j (aboN n.txn)).v.its t).isSome = true → t ≠ n.txn ∧ (lkL j.v.its t).isSome = true) := by
  unfold planV
  cases hr : rightN n with
  | false => left; rfl
  | true =>
  rw [if_neg (by decide)]
  by_cases h3 : n.kind = 3
  · rw [if_pos h3]
    by_cases hf : f = 0
    · rw [if_pos hf]
      unfold prepV
      by_cases c1 : (lkL j.done n.txn).isSome = true ∨ checkV j.v.dim n.ops ≠ 0
      · rw [if_pos c1]; left; rfl
      rw [if_neg c1]
      simp only [not_or, Decidable.not_not] at c1
      by_cases c2 : (lkL j.v.its n.txn).isSome = true
      · rw [if_pos c2]; left; rfl
      rw [if_neg c2]
      cases c3 : takenV j.v n.ops with
      | true => left; rfl
      | false =>
        rw [if_neg (by decide)]
        right; left
        exact ⟨rfl, once_prep hj hr h3 (isSome_ne c1.1) c1.2 (isSome_ne c2) c3⟩
    · rw [if_neg hf]; left; rfl
  rw [if_neg h3]
  by_cases h5 : n.kind = 5
  · rw [if_pos h5]
    unfold deciV
    by_cases c1 : n.code ≠ 0
    · rw [if_pos c1]
      by_cases c2 : (lkL j.v.its n.txn).isSome = true ∧ f = 0
      · rw [if_pos c2]
        right; right; right
        exact ⟨rfl, once_abort hj h0 c2.1⟩
      · rw [if_neg c2]; left; rfl
    rw [if_neg c1]
    cases hd : lkL j.done n.txn with
    | some s =>
      dsimp only
      by_cases c2 : s = n.stamp
      · rw [if_pos c2]; left; rfl
      · rw [if_neg c2]; left; rfl
    | none =>
      dsimp only
      cases hl : lkL j.v.its n.txn with
      | none => left; rfl
      | some i =>
        dsimp only
        by_cases c3 : max i.1 j.v.mark < n.stamp ∧ aboveV j.v n.stamp i.2 = true
        · rw [if_pos c3]
          right; right; left
          exact ⟨rfl, rfl, once_commit hj hr hd hl c3.1 c3.2⟩
        · rw [if_neg c3]; left; rfl
  rw [if_neg h5]
  by_cases h7 : n.kind = 7
  · rw [if_pos h7]
    cases hd : lkL j.done n.txn with
    | some s => left; rfl
    | none => left; rfl
  · rw [if_neg h7]; left; rfl
end Go.Proofs.YtjidejcehmamkaaGreatDoor
namespace Go.Proofs.YtjidejcehmamkaaGreatDoor
open Go Go.SX
attribute [local irreducible] swp opsS thenS blockS retS CallsS St Ent YieldS anyS drawS
end Go.Proofs.YtjidejcehmamkaaGreatDoor
namespace Go.Proofs.YtjidejcehmamkaaGreatDoor
open Go Go.SX
attribute [local irreducible] swp opsS thenS blockS retS CallsS St Ent YieldS anyS drawS
def DJ (st : VS) : Prop := ∀ i ∈ st.its, ∀ j ∈ st.its, i.1 ≠ j.1 → ∀ x ∈ i.2.2.map (·.1), x ∉ j.2.2.map (·.1)
theorem DJ.sub {st st' : VS} (h : DJ st) (hs : ∀ i ∈ st'.its, i ∈ st.its) : DJ st' := fun i hi j hj => h i (hs i hi) j (hs j hj)
end Go.Proofs.YtjidejcehmamkaaGreatDoor
namespace Go.Proofs.YtjidejcehmamkaaGreatDoor
open Go Go.SX
structure JOW (j : JS) (n : Nat) : Prop where
  w : WFK j.v n
  kp : keysOK j.parts
  kd : keysOK j.done
  p : ∀ t s, lkL j.done t = some s → 0 < s
  m : 0 ≤ j.v.mark
  ne : ∀ c ∈ j.v.ch, 0 < c.2.length
  dj : DJ j.v
  pl : j.parts.length ≤ n
  dl : j.done.length ≤ n
theorem JOW.le {j : JS} {a b : Nat} (h : JOW j a) (hl : a ≤ b) : JOW j b := ⟨h.w.mono hl, h.kp, h.kd, h.p, h.m, h.ne, h.dj, Nat.le_trans h.pl hl, Nat.le_trans h.dl hl⟩
theorem putL_len {κ α : Type} [DecidableEq κ] (m : List (κ × α)) (x : κ) (a : α) : (putL m x a).length ≤ m.length + 1 := by
  unfold putL
  split <;> simp
theorem delL_len {κ α : Type} [DecidableEq κ] (m : List (κ × α)) (x : κ) : (delL m x).length ≤ m.length := List.length_filter_le _ _
theorem sw1_ne {s : Int} {u : List (Int × VL) × GL} (hk : keysOK u.1) (h : ∀ c ∈ u.1, 0 < c.2.length) (id : Int) : ∀ c ∈ (sw1 s u id).1, 0 < c.2.length := by
  intro c hc
  unfold sw1 at hc
  dsimp only at hc
  split at hc
  · exact h c (List.mem_filter.1 hc).1
  · rename_i h0
    rcases keyCase u.1 hk id with ⟨p, w, q, e, hp, hq⟩ | hno
    · rw [e] at hc h h0
      rw [putL_mid hp hq] at hc
      rcases List.mem_append.1 hc with hc | hc
      · exact h c (List.mem_append_left _ hc)
      rcases List.mem_cons.1 hc with rfl | hc
      · exact Nat.pos_of_ne_zero h0
      · exact h c (List.mem_append_right _ (List.mem_cons_of_mem _ hc))
    · rw [putL_none hno] at hc
      rcases List.mem_append.1 hc with hc | hc
      · exact h c hc
      · obtain rfl := List.mem_singleton.1 hc
        exact Nat.pos_of_ne_zero h0
theorem swF_ne {s : Int} : ∀ {ks : List Int} {u : List (Int × VL) × GL}, keysOK u.1 → (∀ c ∈ u.1, 0 < c.2.length) → ∀ c ∈ (ks.foldl (sw1 s) u).1, 0 < c.2.length
  | [], _, _, h => h
  | k :: ks, u, hk, h => swF_ne (ks := ks) (sw1_ok hk k) (sw1_ne hk h k)
theorem applyE_pos {st : VS} {t s : Int} (h0 : 0 ≤ s) (h : applyE st t s = 0) : 0 < s := by
  unfold applyE at h
  cases hl : lkL st.its t with
  | none =>
    rw [hl] at h
    dsimp only at h
    split at h <;> cases h
  | some i =>
    rw [hl] at h
    dsimp only at h
    split at h
    · cases h
    · omega
theorem applyE_held {st : VS} {t s : Int} (h : applyE st t s = 0) : ∃ i, lkL st.its t = some i := by
  unfold applyE at h
  cases hl : lkL st.its t with
  | none =>
    rw [hl] at h
    dsimp only at h
    split at h <;> cases h
  | some i => exact ⟨i, rfl⟩
theorem DJ.lock {st : VS} (h : DJ st) (t a : Int) (ops : VL) : DJ (lockS st t a ops) := by
  unfold lockS
  split
  · rename_i hE
    unfold lockE at hE
    by_cases h1 : 1099511627776 < a
    · rw [if_pos h1] at hE; cases hE
    rw [if_neg h1] at hE
    by_cases h2 : checkV st.dim ops ≠ 0
    · rw [if_pos h2] at hE; exact absurd hE h2
    rw [if_neg h2] at hE
    by_cases h3 : (lkL st.its t).isSome = true
    · rw [if_pos h3] at hE; cases hE
    rw [if_neg h3] at hE
    have hfree : ∀ i ∈ st.its, ∀ x ∈ ops.map (·.1), x ∉ i.2.2.map (·.1) := by
      intro i hi x hx hx2
      obtain ⟨w, hw, rfl⟩ := List.mem_map.1 hx
      obtain ⟨u, hu, hux⟩ := List.mem_map.1 hx2
      have : (ops.any fun o => st.its.any fun i => holdsV i.2.2 o.1) = true := List.any_eq_true.2 ⟨w, hw, List.any_eq_true.2 ⟨i, hi, List.any_eq_true.2 ⟨u, hu, decide_eq_true hux⟩⟩⟩
      rw [if_pos this] at hE
      cases hE
    intro i hi j hj hij x hx
    rcases List.mem_append.1 hi with hi | hi
    · rcases List.mem_append.1 hj with hj | hj
      · exact h i hi j hj hij x hx
      · obtain rfl := List.mem_singleton.1 hj
        exact fun hx2 => hfree i hi x hx2 hx
    · obtain rfl := List.mem_singleton.1 hi
      rcases List.mem_append.1 hj with hj | hj
      · exact hfree j hj x hx
      · obtain rfl := List.mem_singleton.1 hj
        exact absurd rfl hij
  · exact h
theorem JOW.app {j : JS} {k : Nat} (h : JOW j k) {n : NA} (h0 : 0 ≤ n.stamp) : JOW (appS j n) (k + 1) := by
  unfold appS
  split
  · exact h.le (by omega)
  rename_i hE
  have hE : appE j n = 0 := Decidable.not_not.1 hE
  have hr : ¬ rightN n = false := fun hh => by unfold appE at hE; rw [if_pos hh] at hE; cases hE
  unfold appE at hE
  rw [if_neg hr] at hE
  split
  · refine ⟨h.w.lock _ _ _, putL_ok h.kp _ _, h.kd, h.p, ?_, ?_, h.dj.lock _ _ _, Nat.le_trans (putL_len _ _ _) (Nat.succ_le_succ h.pl), Nat.le_succ_of_le h.dl⟩
    · unfold lockS; split <;> exact h.m
    · unfold lockS; split <;> exact h.ne
  rename_i c1
  rw [if_neg c1] at hE
  split
  · rename_i c2
    rw [if_pos c2] at hE
    obtain ⟨i, hi⟩ := applyE_held hE
    have hSv : applyS j.v n.txn n.stamp = { j.v with ch := applyC n.stamp j.v.ch i.2, its := delL j.v.its n.txn } := by unfold applyS; rw [hi]; dsimp only; rw [if_pos hE]
    refine ⟨h.w.apply _ _, delL_ok h.kp _, putL_ok h.kd _ _, fun t s ht => ?_, ?_, ?_, ?_, Nat.le_trans (delL_len _ _) (Nat.le_succ_of_le h.pl), Nat.le_trans (putL_len _ _ _) (Nat.succ_le_succ h.dl)⟩
    · dsimp only at ht
      rw [lkL_put h.kd] at ht
      split at ht
      · cases ht; exact applyE_pos h0 hE
      · exact h.p t s ht
    · rw [hSv]; exact h.m
    · rw [hSv]
      exact applyC_ne h.w.k1 (h.w.wf.io _ (lk_memL hi)).2.1 h.ne
    · rw [hSv]
      exact h.dj.sub fun i hi => (List.mem_filter.1 hi).1
  split
  · refine ⟨(h.w.free _).mono (by omega), delL_ok h.kp _, h.kd, h.p, h.m, h.ne, h.dj.sub fun i hi => (List.mem_filter.1 hi).1, Nat.le_trans (delL_len _ _) (Nat.le_succ_of_le h.pl), Nat.le_succ_of_le h.dl⟩
  split
  · refine ⟨(h.w.sweep _).mono (by omega), h.kp, h.kd, h.p, ?_, ?_, ?_, Nat.le_succ_of_le h.pl, Nat.le_succ_of_le h.dl⟩
    · have := h.m
      dsimp only
      unfold sweepS
      split <;> (try dsimp only) <;> omega
    · dsimp only
      unfold sweepS
      split
      · exact h.ne
      · exact swF_ne (u := (j.v.ch, [])) h.w.k1 h.ne
    · refine h.dj.sub fun i hi => ?_
      dsimp only at hi
      unfold sweepS at hi
      split at hi <;> exact hi
  · exact h.le (by omega)
theorem plan_one {j : JS} {k : Nat} (hj : JOW j k) {n : NA} (h0 : 0 ≤ n.txn) (f : Int) :
    (planV j f n).rec_ = [] ∨ ∃ r, (planV j f n).rec_ = [r] ∧ appE j r = 0 ∧ r.txn = n.txn ∧ rightN r = true ∧ ((r = { n with kind := 12 } ∧ n.kind = 3 ∧ f = 0) ∨ r = comN n.txn n.stamp ∨ r = aboN n.txn) := by
  unfold planV
  cases hr : rightN n with
  | false => left; rfl
  | true =>
  have hb := right_bound hr
  rw [if_neg (by decide)]
  by_cases h3 : n.kind = 3
  · rw [if_pos h3]
    by_cases hf : f = 0
    · rw [if_pos hf]
      unfold prepV
      by_cases c1 : (lkL j.done n.txn).isSome = true ∨ checkV j.v.dim n.ops ≠ 0
      · rw [if_pos c1]; left; rfl
      rw [if_neg c1]
      simp only [not_or, Decidable.not_not] at c1
      by_cases c2 : (lkL j.v.its n.txn).isSome = true
      · rw [if_pos c2]; left; rfl
      rw [if_neg c2]
      cases c3 : takenV j.v n.ops with
      | true => left; rfl
      | false =>
        rw [if_neg (by decide)]
        right
        have hr2 := right_prep hr h3
        refine ⟨_, rfl, ?_, rfl, hr2, .inl ⟨rfl, h3, hf⟩⟩
        unfold appE
        rw [if_neg (by rw [hr2]; decide), if_pos rfl]
        exact prep_lock (j := j) hb.2.1 c1.2 (isSome_ne c2) c3
    · rw [if_neg hf]; left; rfl
  rw [if_neg h3]
  by_cases h5 : n.kind = 5
  · rw [if_pos h5]
    unfold deciV
    by_cases c1 : n.code ≠ 0
    · rw [if_pos c1]
      by_cases c2 : (lkL j.v.its n.txn).isSome = true ∧ f = 0
      · rw [if_pos c2]
        right
        have hr2 : rightN (aboN n.txn) = true := right_abort h0
        refine ⟨_, rfl, ?_, rfl, hr2, .inr (.inr rfl)⟩
        unfold appE
        rw [if_neg (by rw [hr2]; decide), if_neg (show ¬ (14 : Int) = 12 by decide), if_neg (show ¬ (14 : Int) = 13 by decide), if_pos rfl]
        exact if_pos c2.1
      · rw [if_neg c2]; left; rfl
    rw [if_neg c1]
    cases hd : lkL j.done n.txn with
    | some s =>
      dsimp only
      by_cases c2 : s = n.stamp
      · rw [if_pos c2]; left; rfl
      · rw [if_neg c2]; left; rfl
    | none =>
      dsimp only
      cases hl : lkL j.v.its n.txn with
      | none => left; rfl
      | some i =>
        dsimp only
        by_cases c3 : max i.1 j.v.mark < n.stamp ∧ aboveV j.v n.stamp i.2 = true
        · rw [if_pos c3]
          right
          have hr2 : rightN (comN n.txn n.stamp) = true := right_commit hb.1
          refine ⟨_, rfl, ?_, rfl, hr2, .inr (.inl rfl)⟩
          unfold appE
          rw [if_neg (by rw [hr2]; decide), if_neg (show ¬ (13 : Int) = 12 by decide), if_pos rfl]
          exact above_apply hl c3.1 hj.m hb.1 c3.2
        · rw [if_neg c3]; left; rfl
  rw [if_neg h5]
  by_cases h7 : n.kind = 7
  · rw [if_pos h7]
    cases hd : lkL j.done n.txn with
    | some s => left; rfl
    | none => left; rfl
  · rw [if_neg h7]; left; rfl
theorem app_dim {j : JS} {r : NA} : (appS j r).v.dim = j.v.dim := by
  unfold appS
  split
  · rfl
  split
  · dsimp only
    unfold lockS; split <;> rfl
  split
  · dsimp only
    unfold applyS
    split
    · rfl
    · split <;> rfl
  split
  · rfl
  split
  · dsimp only
    unfold sweepS; split <;> rfl
  · rfl
end Go.Proofs.YtjidejcehmamkaaGreatDoor
namespace Go.Proofs.YtjidejcehmamkaaGreatDoor
open Go Go.SX
attribute [local irreducible] swp opsS thenS blockS retS CallsS St Ent YieldS anyS drawS
end Go.Proofs.YtjidejcehmamkaaGreatDoor
namespace Go.Proofs.YtjidejcehmamkaaGreatDoor
open Go Go.SX
attribute [local irreducible] swp opsS thenS blockS retS CallsS St Ent YieldS anyS drawS
theorem Mark_spec (v : Nat) (st : VS) (L : List HP) :
    CallsS Tryz.prog 123 [ptrV v] (vaultH v st :: L) (fun r L' => r = .int .u64 st.mark ∧ L' = vaultH v st :: L) := by
  refine calls_vault fun mc mi M cs is hok => ?_
  refine CallsS.of_body Tryz.func123 rfl rfl rfl ?_
  refine Q.r ?_; (repeat (intro b1; refine Q.r ?_))
  exact N.r1 (RV.tmp rfl RV.nil) (vault_shut (mc := mc) (mi := mi) hok) ⟨rfl, rfl⟩
end Go.Proofs.YtjidejcehmamkaaGreatDoor
namespace Go.Proofs.YtjidejcehmamkaaGreatDoor
open Go Go.SX
attribute [local irreducible] swp opsS thenS blockS retS CallsS St Ent YieldS anyS drawS
end Go.Proofs.YtjidejcehmamkaaGreatDoor
namespace Go.Proofs.YtjidejcehmamkaaGreatDoor
open Go Go.SX
attribute [local irreducible] swp opsS thenS blockS retS CallsS St Ent YieldS anyS drawS
theorem allH_out {A : HP} {l L : List HP} : Ent (allH (A :: l) :: L) (A :: allH l :: L) := Ent.trans Ent.open_all (Ent.cons Ent.shut_all)
theorem allH_snoc {A : HP} {l L : List HP} : Ent (A :: allH l :: L) (allH (l ++ [A]) :: L) := by
  refine Ent.trans (Ent.cons Ent.open_all) (Ent.trans ?_ Ent.shut_all)
  rw [List.append_assoc]
  exact Ent.perm List.perm_middle.symm
abbrev opsH (e : IV) : HP := allH [slO 46 2 e.a e.ops.length e.c (e.ops.flatMap OV.cells), vecsH e.ops]
abbrev itsH (es : List IV) : HP := allH (es.map opsH)
abbrev verH (e : EV) : HP := allH [slO 130 2 e.a e.vs.length e.c (e.vs.flatMap OV.cells), vecsH e.vs]
abbrev entH (es : List EV) : HP := allH (es.map verH)
theorem pair_in {A B : HP} {L : List HP} : Ent (A :: B :: L) (allH [A, B] :: L) := Ent.shut_all (L := [A, B])
theorem pair_out {A B : HP} {L : List HP} : Ent (allH [A, B] :: L) (A :: B :: L) := Ent.open_all
theorem its_snoc {es : List IV} {e : IV} {L : List HP} : Ent (slO 46 2 e.a e.ops.length e.c (e.ops.flatMap OV.cells) :: vecsH e.ops :: itsH es :: L) (itsH (es ++ [e]) :: L) := by
  show Ent _ (allH ((es ++ [e]).map opsH) :: L)
  rw [List.map_append, List.map_cons, List.map_nil]
  exact Ent.trans pair_in allH_snoc
theorem ent_snoc {es : List EV} {e : EV} {L : List HP} : Ent (slO 130 2 e.a e.vs.length e.c (e.vs.flatMap OV.cells) :: vecsH e.vs :: entH es :: L) (entH (es ++ [e]) :: L) := by
  show Ent _ (allH ((es ++ [e]).map verH) :: L)
  rw [List.map_append, List.map_cons, List.map_nil]
  exact Ent.trans pair_in allH_snoc
theorem perm_keys {α : Type} {m m' : List (Int × α)} (h : keysOK m) (hn : (m'.map (·.1)).Perm (m.map (·.1))) (hs : ∀ u ∈ m', u ∈ m) : m'.Perm m := by
  have hn' : keysOK m' := hn.nodup_iff.2 h
  refine (List.perm_ext_iff_of_nodup (keys_nodup hn') (keys_nodup h)).2 fun u => ⟨hs u, fun hu => ?_⟩
  obtain ⟨w, hw, e⟩ := List.mem_map.1 (hn.mem_iff.2 (List.mem_map_of_mem hu))
  have h1 := (lkL_iff h).2 (show (w.1, w.2) ∈ m from hs w hw)
  have h2 := (lkL_iff h).2 (show (u.1, u.2) ∈ m from hu)
  rw [e, h2] at h1
  have h3 : w = u := Prod.ext e (Option.some.inj h1).symm
  rw [← h3]; exact hw
theorem nodup_lt {l : List Int} (h : l.Nodup) (hs : l.Pairwise (· ≤ ·)) : l.Pairwise (· < ·) :=
  (hs.and h).imp fun ⟨h1, h2⟩ => by omega
set_option maxHeartbeats 2000000 in
theorem IntentsO_spec (v : Nat) (st : VS) (n : Nat) (L : List HP) (hw : WF st n) (hn : n ≤ 10000) :
    CallsS Tryz.prog 31 [ptrV v] (vaultH v st :: L) (fun r L' => ∃ (a : Option Addr) (c : Nat) (es : List IV), r = .slice a es.length c ∧ (es.map IV.abs).Perm st.its ∧ (es.map (·.txn)).Pairwise (· < ·) ∧ L' = slO 44 3 a es.length c (es.flatMap IV.cells) :: itsH es :: vaultH v st :: L) := by
  refine calls_vault fun mc mi M cs is hok => ?_
  have hcl : is.length = st.its.length := by rw [← hok.its]; simp
  have hcn : is.length ≤ n := by rw [hcl]; exact hw.il
  refine CallsS.of_body Tryz.func31 rfl rfl rfl ?_
  refine Q.r ?_; (repeat (intro b1; refine Q.r ?_))
  refine S.cr rfl (MapKeysI_spec (some mi) _) ?_
  rintro _ _ ⟨bm, rfl, rfl⟩
  refine Q.r ?_; (repeat (intro b1; refine Q.r ?_))
  have hs := KeysI_spec IV.val bm mi (is.map fun i => (i.txn, i)) (vP v mc mi st.dim st.mark :: vC mc cs :: chsH M cs :: roM M :: L)
  rw [List.length_map, List.map_map] at hs
  refine opsS_ent (L' := pt bm (cl [.map (some mi)] 187) :: vI mi is :: vP v mc mi st.dim st.mark :: vC mc cs :: chsH M cs :: roM M :: L) (by repeat (first | exact Ent.refl _ | exact Ent.nil | refine Ent.pick ?_ | refine Ent.nilS ?_ | refine Ent.nilM ?_ | refine Ent.drop ?_)) ?_
  refine S.cr rfl (Sorted_spec _ _ (is.map (·.txn)) _ _ (by rw [List.length_map]; omega) (by rw [List.length_map]; exact hs)) ?_
  rintro _ _ ⟨a, c, rfl, rfl⟩
  rw [List.length_map]
  refine Q.r ?_; (repeat (intro b1; refine Q.r ?_))
  obtain ⟨ks, hks⟩ : ∃ ks, ks = sortL (is.map (·.txn)) := ⟨_, rfl⟩
  have hkl : ks.length = is.length := by rw [hks, sortL_len, List.length_map]
  rw [← hks]
  have hkm : ∀ x ∈ ks, ∃ u ∈ is, u.txn = x := fun x hx => by
    rw [hks] at hx
    obtain ⟨u, hu, e⟩ := List.mem_map.1 ((sortL_perm _).mem_iff.1 hx)
    exact ⟨u, hu, e⟩
  have hkp : ks.Perm (is.map (·.txn)) := by rw [hks]; exact sortL_perm _
  have hin : (is.map (·.txn)).Nodup := by
    have := hok.k2
    unfold keysOK at this
    rw [← hok.its, List.map_map] at this
    exact this
  have hks2 : ks.Pairwise (· < ·) := nodup_lt (hkp.nodup_iff.2 hin) (by rw [hks]; exact sortL_sorted _)
  clear hks hs
  refine swp_addr a (fun ha => ?_)
  rw [← hkl] at ha ⊢
  refine swp_cutB (σ := Option Addr × Nat × List IV) (fun u => [(3, .slice u.1 u.2.2.length u.2.1)]) (fun u => slO 44 3 u.1 u.2.2.length u.2.1 (u.2.2.flatMap IV.cells) :: itsH u.2.2 :: vP v mc mi st.dim st.mark :: vC mc cs :: vI mi is :: chsH M cs :: roM M :: L) (fun u => u.2.2.map (·.txn) = ks ∧ ∀ e ∈ u.2.2, e.abs ∈ st.its) ?_ ?_
  · refine swp_loop (σ := Nat × Option Addr × Nat × List IV) (fun u => [(0, ptrV v), (13, .slice a ks.length c), (14, .int .i64 ks.length), (3, .slice u.2.1 u.2.2.2.length u.2.2.1), (15, .int .i64 u.1)])
      (fun u => slO 30 1 a ks.length c (ks.map U64) :: slO 44 3 u.2.1 u.2.2.2.length u.2.2.1 (u.2.2.2.flatMap IV.cells) :: itsH u.2.2.2 :: vP v mc mi st.dim st.mark :: vC mc cs :: vI mi is :: chsH M cs :: roM M :: L)
      (fun u => u.1 ≤ ks.length ∧ u.2.2.2.map (·.txn) = ks.take u.1 ∧ ∀ e ∈ u.2.2.2, e.abs ∈ st.its) (fun u => ks.length - u.1) (0, none, 0, []) ⟨rfl, rfl, rfl, rfl, rfl, trivial⟩ ?_ ⟨by omega, by simp, by simp⟩ ?_
    · refine Ent.cons (Ent.trans (Ent.trans ?_ (Ent.shut_all (L := []))) slO_nil)
      repeat (first | exact Ent.refl _ | exact Ent.nil | refine Ent.pick ?_ | refine Ent.nilS ?_ | refine Ent.nilM ?_ | refine Ent.drop ?_)
    rintro ⟨k, a3, c3, es⟩ ⟨hk, hes, hall⟩
    dsimp only at hk hes hall ⊢
    have hesl : es.length = k := by
      have := congrArg List.length hes
      simp at this; omega
    by_cases hlt : k < ks.length
    · obtain ⟨x, hx⟩ := mem_get hlt
      obtain ⟨u, hu, hux⟩ := hkm x (List.mem_of_getElem? hx)
      rcases ha with ha | ⟨b, rfl⟩
      · omega
      cases hz : lkL (is.map fun i => (i.txn, i)) x with
      | none => exact absurd hux (lk_none' hz _ (List.mem_map_of_mem (f := fun i : IV => (i.txn, i)) hu))
      | some y =>
        obtain ⟨hmy, hyt⟩ := lk_mem hz
        have hr : RdC (slO 30 1 (some ⟨b, 0, none⟩) ks.length c (ks.map U64) :: slO 44 3 a3 es.length c3 (es.flatMap IV.cells) :: itsH es :: vP v mc mi st.dim st.mark :: vC mc cs :: vI mi is :: chsH M cs :: roM M :: L) b (0 + k * 1) (cU x) := RdC.elem (g := cU) (fun _ => rfl) (by rw [flat_U]; exact RdC.ofS) hx
        have hyi : y.abs ∈ st.its := by rw [← hok.its]; exact List.mem_map_of_mem hmy
        have hio := hw.io y.abs hyi
        have hyl : y.ops.length ≤ 16 := by simpa using hio.1
        refine Q.r ?_; (repeat (intro b1; refine Q.r ?_))
        refine S.y (Y.lk false rfl rfl (fun w => Tryz.zeroValue44 w)) ?_
        rw [hz]
        dsimp only
        refine S.cr rfl (copyOf_spec y _ ((hok.ok y hmy).rd) (by omega) (fun o ho => by have := (hio.2.2 o.abs (List.mem_map_of_mem (f := OV.abs) ho)).1; dsimp only at this; omega)) ?_
        rintro _ _ ⟨a5, c5, us, hus, rfl, rfl⟩
        refine Q.r ?_; (repeat (intro b1; refine Q.r ?_))
        refine S.app rfl rfl (SrcS.sl RdC.row (by rfl) (by rfl)) (by rfl) (by omega) (by omega) (fun a4 c4 => ?_)
        refine Q.r ?_; (repeat (intro b1; refine Q.r ?_))
        refine ⟨(k + 1, a4, c4, es ++ [⟨y.txn, y.after, a5, c5, us⟩]), ⟨rfl, rfl, rfl, congrArg some (by simp), rfl, trivial⟩, ?_, ⟨by dsimp only; omega, ?_, fun e he => ?_⟩, by dsimp only; omega⟩
        · dsimp only
          rw [len_snoc, flat_snoc]
          refine Ent.trans ?_ (Ent.cons (Ent.cons its_snoc))
          dsimp only
          repeat (first | exact Ent.refl _ | exact Ent.nil | refine Ent.pick ?_ | refine Ent.nilS ?_ | refine Ent.nilM ?_ | refine Ent.drop ?_)
        · dsimp only
          rw [List.map_append, hes, take_snoc hx, List.map_cons, List.map_nil, hyt]
        · rcases List.mem_append.1 he with he | he
          · exact hall e he
          · obtain rfl := List.mem_singleton.1 he
            show (y.txn, y.after, us.map OV.abs) ∈ st.its
            rw [hus]; exact hyi
    · have hke : k = ks.length := by omega
      subst hke
      rw [List.take_length] at hes
      refine Q.r ?_; (repeat (intro b1; refine Q.r ?_))
      exact ⟨(a3, c3, es), ⟨congrArg some (by simp), trivial⟩, by repeat (first | exact Ent.refl _ | exact Ent.nil | refine Ent.pick ?_ | refine Ent.nilS ?_ | refine Ent.nilM ?_ | refine Ent.drop ?_), hes, hall⟩
  rintro ⟨a3, c3, es⟩ ⟨hes, hall⟩
  dsimp only at hes hall ⊢
  refine Q.r ?_; (repeat (intro b1; refine Q.r ?_))
  refine N.r1 (RV.tmp rfl RV.nil) ?_ ⟨a3, c3, es, rfl, ?_, by rw [hes]; exact hks2, rfl⟩
  · refine Ent.cons (Ent.cons ?_)
    exact vault_shut (mc := mc) (mi := mi) hok
  · refine perm_keys hok.k2 ?_ (fun u hu => by obtain ⟨w, hw, rfl⟩ := List.mem_map.1 hu; exact hall w hw)
    rw [← hok.its, List.map_map, List.map_map]
    show (es.map (·.txn)).Perm (is.map (·.txn))
    rw [hes]; exact hkp
set_option maxHeartbeats 2000000 in
theorem DumpO_spec (v : Nat) (st : VS) (n : Nat) (L : List HP) (hw : WF st n) (hn : n ≤ 10000) :
    CallsS Tryz.prog 121 [ptrV v] (vaultH v st :: L) (fun r L' => ∃ (a : Option Addr) (c : Nat) (es : List EV), r = .slice a es.length c ∧ (es.map EV.abs).Perm st.ch ∧ (es.map (·.id)).Pairwise (· < ·) ∧ L' = slO 128 2 a es.length c (es.flatMap EV.cells) :: entH es :: vaultH v st :: L) := by
  refine calls_vault fun mc mi M cs is hok => ?_
  have hcl : cs.length = st.ch.length := by rw [← hok.ch]; simp
  have hcn : cs.length ≤ 16 * n := by rw [hcl]; exact hw.cl
  refine CallsS.of_body Tryz.func121 rfl rfl rfl ?_
  refine Q.r ?_; (repeat (intro b1; refine Q.r ?_))
  refine S.cr rfl (Ids_spec v mc mi st.dim st.mark cs _ (by omega)) ?_
  rintro _ _ ⟨a, c, rfl, rfl⟩
  refine Q.r ?_; (repeat (intro b1; refine Q.r ?_))
  obtain ⟨ks, hks⟩ : ∃ ks, ks = sortL (cs.map (·.1)) := ⟨_, rfl⟩
  have hkl : ks.length = cs.length := by rw [hks, sortL_len, List.length_map]
  rw [← hks]
  have hkm : ∀ x ∈ ks, ∃ u ∈ cs, u.1 = x := fun x hx => by
    rw [hks] at hx
    obtain ⟨u, hu, e⟩ := List.mem_map.1 ((sortL_perm _).mem_iff.1 hx)
    exact ⟨u, hu, e⟩
  have hkk : keysOK (cs.map fun c => (c.1, c.2.2)) := by rw [hok.ch]; exact hok.k1
  have hin : (cs.map (·.1)).Nodup := by
    unfold keysOK at hkk
    rw [List.map_map] at hkk
    exact hkk
  have hkp : ks.Perm (cs.map (·.1)) := by rw [hks]; exact sortL_perm _
  have hks2 : ks.Pairwise (· < ·) := nodup_lt (by rw [hks]; exact (sortL_perm _).nodup_iff.2 hin) (by rw [hks]; exact sortL_sorted _)
  clear hks
  refine swp_addr a (fun ha => ?_)
  rw [← hkl] at ha ⊢
  refine swp_cutB (σ := Option Addr × Nat × List EV) (fun u => [(3, .slice u.1 u.2.2.length u.2.1)]) (fun u => slO 128 2 u.1 u.2.2.length u.2.1 (u.2.2.flatMap EV.cells) :: entH u.2.2 :: vP v mc mi st.dim st.mark :: vC mc cs :: vI mi is :: chsH M cs :: roM M :: L) (fun u => u.2.2.map (·.id) = ks ∧ ∀ e ∈ u.2.2, e.abs ∈ st.ch) ?_ ?_
  · refine swp_loop (σ := Nat × Option Addr × Nat × List EV) (fun u => [(0, ptrV v), (9, .slice a ks.length c), (10, .int .i64 ks.length), (3, .slice u.2.1 u.2.2.2.length u.2.2.1), (11, .int .i64 u.1)])
      (fun u => slO 30 1 a ks.length c (ks.map U64) :: slO 128 2 u.2.1 u.2.2.2.length u.2.2.1 (u.2.2.2.flatMap EV.cells) :: entH u.2.2.2 :: vP v mc mi st.dim st.mark :: vC mc cs :: vI mi is :: chsH M cs :: roM M :: L)
      (fun u => u.1 ≤ ks.length ∧ u.2.2.2.map (·.id) = ks.take u.1 ∧ ∀ e ∈ u.2.2.2, e.abs ∈ st.ch) (fun u => ks.length - u.1) (0, none, 0, []) ⟨rfl, rfl, rfl, rfl, rfl, trivial⟩ ?_ ⟨by omega, by simp, by simp⟩ ?_
    · refine Ent.cons (Ent.trans (Ent.trans ?_ (Ent.shut_all (L := []))) slO_nil)
      repeat (first | exact Ent.refl _ | exact Ent.nil | refine Ent.pick ?_ | refine Ent.nilS ?_ | refine Ent.nilM ?_ | refine Ent.drop ?_)
    rintro ⟨k, a3, c3, es⟩ ⟨hk, hes, hall⟩
    dsimp only at hk hes hall ⊢
    have hesl : es.length = k := by
      have := congrArg List.length hes
      simp at this; omega
    by_cases hlt : k < ks.length
    · obtain ⟨x, hx⟩ := mem_get hlt
      obtain ⟨u, hu, hux⟩ := hkm x (List.mem_of_getElem? hx)
      rcases ha with ha | ⟨b, rfl⟩
      · omega
      rcases cr_case cs hkk x with ⟨p, q, b2, vs, e0, e1, e2, e3, e4⟩ | ⟨e1, e2, e3⟩
      · have hr : RdC (slO 30 1 (some ⟨b, 0, none⟩) ks.length c (ks.map U64) :: slO 128 2 a3 es.length c3 (es.flatMap EV.cells) :: entH es :: vP v mc mi st.dim st.mark :: vC mc cs :: vI mi is :: chsH M cs :: roM M :: L) b (0 + k * 1) (cU x) := RdC.elem (g := cU) (fun _ => rfl) (by rw [flat_U]; exact RdC.ofS) hx
        have hmc : (x, b2, vs) ∈ cs := by rw [e0]; simp
        obtain ⟨R, hR⟩ := chs_mem (M := M) hmc
        have hxs : (x, vs) ∈ st.ch := by rw [← hok.ch]; exact List.mem_map_of_mem (f := fun c : CR => (c.1, c.2.2)) hmc
        have hco := hw.co (x, vs) hxs
        refine Q.r ?_; (repeat (intro b1; refine Q.r ?_))
        refine S.y (Y.lk false rfl rfl (fun w => Tryz.zeroValue216 w)) ?_
        rw [e1]
        dsimp only
        refine opsS_ent (L' := chainH M b2 vs :: roM M :: R :: slO 30 1 (some ⟨b, 0, none⟩) ks.length c (ks.map U64) :: slO 128 2 a3 es.length c3 (es.flatMap EV.cells) :: entH es :: vP v mc mi st.dim st.mark :: vC mc cs :: vI mi is :: L) ?_ ?_
        · refine Ent.trans (?_ : Ent _ (chsH M cs :: roM M :: slO 30 1 (some ⟨b, 0, none⟩) ks.length c (ks.map U64) :: slO 128 2 a3 es.length c3 (es.flatMap EV.cells) :: entH es :: vP v mc mi st.dim st.mark :: vC mc cs :: vI mi is :: L)) ?_
          · repeat (first | exact Ent.refl _ | exact Ent.nil | refine Ent.pick ?_ | refine Ent.nilS ?_ | refine Ent.nilM ?_ | refine Ent.drop ?_)
          exact (hR _).1.trans (Ent.cons (Ent.perm (.swap _ _ _)))
        refine S.cr rfl (List_spec M b2 vs _ (by have := hco.2.1; dsimp only at this; omega) (fun w hw => by have := hco.2.2 w hw; omega)) ?_
        rintro _ _ ⟨a5, c5, ovs, hov, rfl, rfl⟩
        refine Q.r ?_; (repeat (intro b1; refine Q.r ?_))
        refine S.app rfl rfl (SrcS.sl RdC.row (by rfl) (by rfl)) (by rfl) (by omega) (by omega) (fun a4 c4 => ?_)
        refine Q.r ?_; (repeat (intro b1; refine Q.r ?_))
        refine ⟨(k + 1, a4, c4, es ++ [⟨x, a5, c5, ovs⟩]), ⟨rfl, rfl, rfl, congrArg some (by simp), rfl, trivial⟩, ?_, ⟨by dsimp only; omega, ?_, fun e he => ?_⟩, by dsimp only; omega⟩
        · dsimp only
          rw [len_snoc, flat_snoc]
          refine Ent.trans ?_ (Ent.cons (Ent.cons ent_snoc))
          dsimp only
          unfold vecsH
          refine Ent.pick (Ent.pick (Ent.pick (Ent.pick (Ent.pick (Ent.pick (Ent.pick (Ent.pick ?_)))))))
          refine Ent.trans ?_ (hR _).2
          repeat (first | exact Ent.refl _ | exact Ent.nil | refine Ent.pick ?_ | refine Ent.nilS ?_ | refine Ent.nilM ?_ | refine Ent.drop ?_)
        · dsimp only
          rw [List.map_append, hes, take_snoc hx, List.map_cons, List.map_nil]
        · rcases List.mem_append.1 he with he | he
          · exact hall e he
          · obtain rfl := List.mem_singleton.1 he
            show (x, ovs.map OV.abs) ∈ st.ch
            rw [hov]; exact hxs
      · exact absurd hux (e3 u hu)
    · have hke : k = ks.length := by omega
      subst hke
      rw [List.take_length] at hes
      refine Q.r ?_; (repeat (intro b1; refine Q.r ?_))
      exact ⟨(a3, c3, es), ⟨congrArg some (by simp), trivial⟩, by repeat (first | exact Ent.refl _ | exact Ent.nil | refine Ent.pick ?_ | refine Ent.nilS ?_ | refine Ent.nilM ?_ | refine Ent.drop ?_), hes, hall⟩
  rintro ⟨a3, c3, es⟩ ⟨hes, hall⟩
  dsimp only at hes hall ⊢
  refine Q.r ?_; (repeat (intro b1; refine Q.r ?_))
  refine N.r1 (RV.tmp rfl RV.nil) (Ent.cons (Ent.cons (vault_shut hok))) ⟨a3, c3, es, rfl, ?_, by rw [hes]; exact hks2, rfl⟩
  refine perm_keys hok.k1 ?_ (fun u hu => by obtain ⟨w, hw, rfl⟩ := List.mem_map.1 hu; exact hall w hw)
  rw [← hok.ch, List.map_map, List.map_map]
  show (es.map (·.id)).Perm (cs.map (·.1))
  rw [hes]; exact hkp
end Go.Proofs.YtjidejcehmamkaaGreatDoor
namespace Go.Proofs.YtjidejcehmamkaaGreatDoor
open Go Go.SX
attribute [local irreducible] swp opsS thenS blockS retS CallsS St Ent YieldS anyS drawS
theorem abs_all {α : Type} (f : α → HP) (g : (Nat → Option Obj) → α → Prop) (mono : ∀ M M' x, leM M M' → g M x → g M' x) (one : ∀ (x : α) (L L0 : List HP) (M : Nat → Option Obj) [PickM L M L0], Ent (f x :: L) (exH (fun M' => allH [pureH (leM M M' ∧ g M' x), roM M']) :: L0)) :
    ∀ (xs : List α) {L L0 : List HP} {M : Nat → Option Obj} [hp : PickM L M L0], Ent (allH (xs.map f) :: L) (exH (fun M' => allH [pureH (leM M M' ∧ ∀ x ∈ xs, g M' x), roM M']) :: L0) := by
  intro xs
  induction xs with
  | nil =>
    intro L L0 M hp
    refine Ent.drop (hp.ent.trans ?_)
    refine Ent.trans ?_ (Ent.shut_ex M)
    refine Ent.trans ?_ Ent.shut_all
    exact Ent.shut_pure ⟨leM.refl M, fun o ho => by cases ho⟩
  | cons o us ih =>
    intro L L0 M hp
    refine (allH_out (A := f o) (l := us.map f)).trans ?_
    have hp2 : PickM (allH (us.map f) :: L) M (allH (us.map f) :: L0) := inferInstance
    refine (one o _ _ M).trans ?_
    refine Ent.ex fun M1 => Ent.open_all.trans (Ent.pure fun hs => ?_)
    refine Ent.trans (Ent.perm (.swap _ _ _)) ?_
    refine (ih (M := M1) (L := roM M1 :: L0)).trans ?_
    refine Ent.ex fun M2 => Ent.open_all.trans (Ent.pure fun hs2 => ?_)
    refine Ent.trans ?_ (Ent.shut_ex M2)
    refine Ent.trans ?_ Ent.shut_all
    refine Ent.shut_pure ⟨hs.1.trans hs2.1, fun u hu => ?_⟩
    rcases List.mem_cons.1 hu with rfl | hu
    · exact mono _ _ _ hs2.1 hs.2
    · exact hs2.2 u hu
theorem pair_abs {t sz m c : Nat} {a : Option Addr} {cs : List Value} {us : List OV} {L L0 : List HP} {M : Nat → Option Obj} [hp : PickM L M L0] : Ent (allH [slO t sz a m c cs, vecsH us] :: L) (exH (fun M' => allH [pureH (leM M M' ∧ SlM M' a m sz cs ∧ okR M' us), roM M']) :: L0) := by
  refine pair_out.trans ?_
  have hp2 : PickM (vecsH us :: L) M (vecsH us :: L0) := inferInstance
  refine Ent.absorb.trans ?_
  refine Ent.ex fun M1 => Ent.open_all.trans (Ent.pure fun hs => ?_)
  refine Ent.trans (Ent.perm (.swap _ _ _)) ?_
  refine (vecs_abs (M := M1) (L := roM M1 :: L0) us).trans ?_
  refine Ent.ex fun M2 => Ent.open_all.trans (Ent.pure fun hs2 => ?_)
  refine Ent.trans ?_ (Ent.shut_ex M2)
  refine Ent.trans ?_ Ent.shut_all
  exact Ent.shut_pure ⟨hs.1.trans hs2.1, hs.2.mono hs2.1, hs2.2⟩
theorem its_abs (es : List IV) {L L0 : List HP} {M : Nat → Option Obj} [hp : PickM L M L0] : Ent (itsH es :: L) (exH (fun M' => allH [pureH (leM M M' ∧ ∀ e ∈ es, okI M' e), roM M']) :: L0) :=
  abs_all opsH okI (fun M M' x hl h => h.mono hl) (fun x L L0 M _ => pair_abs) es
theorem ent_abs (es : List EV) {L L0 : List HP} {M : Nat → Option Obj} [hp : PickM L M L0] : Ent (entH es :: L) (exH (fun M' => allH [pureH (leM M M' ∧ ∀ e ∈ es, okE M' e), roM M']) :: L0) :=
  abs_all verH okE (fun M M' x hl h => h.mono hl) (fun x L L0 M _ => pair_abs) es
theorem opsS_absI (es : List IV) {n : Nat} {ops rest : List Oper} {Q : Post} {f : Env} {L L0 L1 : List HP} {M : Nat → Option Obj} [h : Pick (itsH es) L L0] [h1 : PickM L0 M L1] (hk : ∀ M', leM M M' → (∀ e ∈ es, okI M' e) → opsS Tryz.prog n ops rest Q f (roM M' :: L1)) : opsS Tryz.prog n ops rest Q f L :=
  opsS_ent (h.ent.trans (its_abs es)) (opsS_ex fun M' => opsS_all (opsS_pure fun hh => hk M' hh.1 hh.2))
theorem opsS_absE (es : List EV) {n : Nat} {ops rest : List Oper} {Q : Post} {f : Env} {L L0 L1 : List HP} {M : Nat → Option Obj} [h : Pick (entH es) L L0] [h1 : PickM L0 M L1] (hk : ∀ M', leM M M' → (∀ e ∈ es, okE M' e) → opsS Tryz.prog n ops rest Q f (roM M' :: L1)) : opsS Tryz.prog n ops rest Q f L :=
  opsS_ent (h.ent.trans (ent_abs es)) (opsS_ex fun M' => opsS_all (opsS_pure fun hh => hk M' hh.1 hh.2))
end Go.Proofs.YtjidejcehmamkaaGreatDoor
namespace Go.Proofs.YtjidejcehmamkaaGreatDoor
open Go Go.SX
attribute [local irreducible] swp opsS thenS blockS retS CallsS St Ent YieldS anyS drawS
structure okN (M : Nat → Option Obj) (n : NV) : Prop where
  p : SlM M n.pa n.parts.length 1 (n.parts.map I64)
  o : SlM M n.oa n.ops.length 2 (n.ops.flatMap OV.cells) ∧ okR M n.ops
  v : SlM M n.va n.vec.length 1 (n.vec.map I32)
  h : SlM M n.ha n.hits.length 3 (n.hits.flatMap HV.cells)
  hv : ∀ h ∈ n.hits, SlM M h.a h.vec.length 1 (h.vec.map I32)
theorem okN.mono {M M' : Nat → Option Obj} {n : NV} (h : okN M n) (hl : leM M M') : okN M' n := ⟨h.p.mono hl, ⟨h.o.1.mono hl, fun o ho => (h.o.2 o ho).mono hl⟩, h.v.mono hl, h.h.mono hl, fun x hx => (h.hv x hx).mono hl⟩
theorem okN.rd {M : Nat → Option Obj} {n : NV} (h : okN M n) {L : List HP} [HasM M L] : RdN L n := ⟨h.p.rd, ⟨h.o.1.rd, fun o ho => (h.o.2 o ho).rd⟩, h.v.rd, h.h.rd, fun x hx => (h.hv x hx).rd⟩
def TabM (M : Nat → Option Obj) : Prop := SlM M (some ⟨0, 0, none⟩) 46 1 sortsC
theorem TabM.mono {M M' : Nat → Option Obj} (h : TabM M) (hl : leM M M') : TabM M' := SlM.mono h hl
theorem TabM.rd {M : Nat → Option Obj} (h : TabM M) {L : List HP} [HasM M L] : RdC L 0 0 sortsC := by
  have h1 : RdS L (some ⟨0, 0, none⟩) 46 1 sortsC := SlM.rd h
  rcases h1.2 with h2 | ⟨b, o, e, r⟩
  · cases h2
  · cases e; exact r
structure NumN (n : NV) : Prop where
  kind : 0 ≤ n.kind ∧ n.kind ≤ 255
  txn : 0 ≤ n.txn
  stamp : 0 ≤ n.stamp
  mark : 0 ≤ n.mark
  after : 0 ≤ n.after
abbrev NA.nv (r : NA) : NV := ⟨r.kind, r.txn, r.batch, r.stamp, r.after, r.mark, r.query, r.id, r.k, r.ef, r.code, r.who, none, 0, [], none, 0, [], none, 0, [], none, 0, []⟩
theorem SlM.nil0 {M : Nat → Option Obj} {a : Option Addr} {sz : Nat} : SlM M a 0 sz [] := ⟨by simp, .inl rfl⟩
theorem okN.nv {M : Nat → Option Obj} (r : NA) : okN M r.nv := ⟨SlM.nil0, ⟨SlM.nil0, fun o ho => by cases ho⟩, SlM.nil0, SlM.nil0, fun o ho => by cases ho⟩
theorem OkN.nv (r : NA) : OkN r.nv := ⟨Nat.zero_le _, Nat.zero_le _, (fun o ho => by cases ho), Nat.zero_le _, Nat.zero_le _, (fun o ho => by cases ho)⟩
abbrev ptrJ (p : Nat) : Value := .pointer (some ⟨p, 0, none⟩)
structure PV where
  a : Option Addr
  c : Nat
  l : List Int
abbrev PV.val (v : PV) : Value := .slice v.a v.l.length v.c
structure JQ (M : Nat → Option Obj) (j : JS) (sf : Int) (ps : List (Int × PV)) : Prop where
  s1 : 1 ≤ sf
  s2 : sf ≤ 15
  pt : ps.map (fun u => (u.1, u.2.l)) = j.parts
  ok : ∀ u ∈ ps, SlM M u.2.a u.2.l.length 1 (u.2.l.map I64)
theorem JQ.mono {M M' : Nat → Option Obj} {j : JS} {self : Int} {ps : List (Int × PV)} (h : JQ M j self ps) (hl : leM M M') : JQ M' j self ps := ⟨h.s1, h.s2, h.pt, fun u hu => (h.ok u hu).mono hl⟩
abbrev jP (p v : Nat) (self dim : Int) (mp md : Nat) : HP := pt p (cl [ptrV v, .int .i64 self, .int .i64 dim, .map (some mp), .map (some md)] 83)
abbrev jT (mp : Nat) (ps : List (Int × PV)) : HP := mpO U64 PV.val mp ps
abbrev jD (md : Nat) (d : List (Int × Int)) : HP := mpO U64 U64 md d
structure JX where
  v : Nat
  mp : Nat
  md : Nat
  self : Int
  ps : List (Int × PV)
def jurH (M : Nat → Option Obj) (p : Nat) (j : JS) : HP := exH fun x : JX => allH [pureH (JQ M j x.self x.ps), jP p x.v x.self j.v.dim x.mp x.md, vaultH x.v j.v, jT x.mp x.ps, jD x.md j.done]
theorem jur_shut {p v mp md : Nat} {self dim : Int} {M : Nat → Option Obj} {j : JS} {ps : List (Int × PV)} {L : List HP} (h : JQ M j self ps) (hd : dim = j.v.dim) : Ent (jP p v self dim mp md :: vaultH v j.v :: jT mp ps :: jD md j.done :: L) (jurH M p j :: L) := by
  subst hd
  exact Ent.trans (Ent.shut_pure h) (Ent.trans (Ent.shut_all (L := [_, _, _, _, _])) (Ent.shut_ex (P := fun x : JX => allH [pureH (JQ M j x.self x.ps), jP p x.v x.self j.v.dim x.mp x.md, vaultH x.v j.v, jT x.mp x.ps, jD x.md j.done]) ⟨v, mp, md, self, ps⟩))
theorem jur_open {p : Nat} {M : Nat → Option Obj} {j : JS} {L L' : List HP} (h : ∀ v mp md self ps, JQ M j self ps → Ent (jP p v self j.v.dim mp md :: vaultH v j.v :: jT mp ps :: jD md j.done :: L) L') : Ent (jurH M p j :: L) L' :=
  Ent.ex fun x => Ent.open_all.trans (Ent.pure fun hx => h x.v x.mp x.md x.self x.ps hx)
theorem jur_mono {p : Nat} {M M' : Nat → Option Obj} {j : JS} {L : List HP} (hl : leM M M') : Ent (jurH M p j :: L) (jurH M' p j :: L) := jur_open fun _ _ _ _ _ hq => jur_shut (hq.mono hl) rfl
theorem calls_jur {g : FuncId} {args : List Value} {R : Value → List HP → Prop} {p : Nat} {M : Nat → Option Obj} {j : JS} {L : List HP}
    (h : ∀ v mp md self ps, JQ M j self ps → CallsS Tryz.prog g args (jP p v self j.v.dim mp md :: vaultH v j.v :: jT mp ps :: jD md j.done :: L) R) : CallsS Tryz.prog g args (jurH M p j :: L) R :=
  CallsS.ex fun x => CallsS.all (CallsS.pure fun hx => h x.v x.mp x.md x.self x.ps hx)
class PickJ (p : Nat) (L : List HP) (M : outParam (Nat → Option Obj)) (j : outParam JS) (L0 : outParam (List HP)) : Prop where
  ent : Ent L (jurH M p j :: L0)
instance PickJ.here {p : Nat} {M : Nat → Option Obj} {L : List HP} {j : JS} : PickJ p (jurH M p j :: L) M j L := ⟨Ent.refl _⟩
instance (priority := low) PickJ.there {p : Nat} {M : Nat → Option Obj} {A : HP} {L L0 : List HP} {j : JS} [h : PickJ p L M j L0] : PickJ p (A :: L) M j (A :: L0) := ⟨(h.ent.cons).trans (Ent.perm (.swap _ _ _))⟩
section
variable {n : Nat} {ops rest : List Oper} {cd : Code} {Q : Post} {f : Env} {L L0 : List HP} {M : Nat → Option Obj} {j : JS}
theorem swp_jur (p : Nat) [hp : PickJ p L M j L0] (h : ∀ v mp md self ps, JQ M j self ps → swp Tryz.prog n cd Q f (jP p v self j.v.dim mp md :: vaultH v j.v :: jT mp ps :: jD md j.done :: L0)) : swp Tryz.prog n cd Q f L :=
  swp_ent hp.ent (swp_ex fun x => swp_all (swp_pure fun hx => h x.v x.mp x.md x.self x.ps hx))
theorem S.cj {d : Tmp} {ty : TypeId} {pos : String} {af : Array Edge} {g : FuncId} {xs : Array Operand} {ats : Array TypeId} {args : List Value} {R : Value → List HP → Prop} {M2 : Nat → Option Obj} {L1 : List HP} (p : Nat) [hp : PickJ p L M j L0] [hm : PickM L0 M2 L1] [he : Enters Tryz.prog g] (hx : argsL f xs.toList = some args) (hc : CallsS Tryz.prog g args (jurH M p j :: roM M2 :: L1) R) (hk : ∀ v L', R v L' → opsS Tryz.prog n ops rest Q (upd f d v) L') :
    opsS Tryz.prog n ops (⟨some d, .call ⟨.value (.func g), xs, ats⟩, ty, pos, af, none⟩ :: rest) Q f L := opsS_ent (hp.ent.trans (Ent.cons hm.ent)) (S.cr hx hc hk)
theorem S.cjn {d : Tmp} {ty : TypeId} {pos : String} {af : Array Edge} {g : FuncId} {xs : Array Operand} {ats : Array TypeId} {args : List Value} {R : Value → List HP → Prop} (p : Nat) [hp : PickJ p L M j L0] [he : Enters Tryz.prog g] (hx : argsL f xs.toList = some args) (hc : CallsS Tryz.prog g args (jurH M p j :: L0) R) (hk : ∀ v L', R v L' → opsS Tryz.prog n ops rest Q (upd f d v) L') :
    opsS Tryz.prog n ops (⟨some d, .call ⟨.value (.func g), xs, ats⟩, ty, pos, af, none⟩ :: rest) Q f L := opsS_ent hp.ent (S.cr hx hc hk)
end
theorem jclose {p v mp md : Nat} {sf dim : Int} {M : Nat → Option Obj} {j : JS} {ps : List (Int × PV)} {L L0 L1 L2 L3 : List HP} [h1 : Pick (jP p v sf dim mp md) L L0] [h2 : Pick (vaultH v j.v) L0 L1] [h3 : Pick (jT mp ps) L1 L2] [h4 : Pick (jD md j.done) L2 L3] (hq : JQ M j sf ps) (hd : dim = j.v.dim) : Ent L (jurH M p j :: L3) :=
  Ent.trans h1.ent (Ent.trans (Ent.cons (Ent.trans h2.ent (Ent.cons (Ent.trans h3.ent (Ent.cons h4.ent))))) (jur_shut hq hd))
theorem vaultOf_spec (p v : Nat) (self dim : Int) (mp md : Nat) (L : List HP) :
    CallsS Tryz.prog 30 [ptrJ p] (jP p v self dim mp md :: L) (fun r L' => r = ptrV v ∧ L' = jP p v self dim mp md :: L) := by
  refine CallsS.of_body Tryz.func30 rfl rfl rfl ?_
  refine Q.r ?_; (repeat (intro b1; refine Q.r ?_))
  exact N.r1 (RV.tmp rfl RV.nil) (Ent.refl _) ⟨rfl, rfl⟩
theorem JMark_spec (M : Nat → Option Obj) (p : Nat) (j : JS) (L : List HP) :
    CallsS Tryz.prog 54 [ptrJ p] (jurH M p j :: L) (fun r L' => r = .int .u64 j.v.mark ∧ L' = jurH M p j :: L) := by
  refine calls_jur fun v mp md self ps hq => ?_
  refine CallsS.of_body Tryz.func54 rfl rfl rfl ?_
  refine Q.r ?_; (repeat (intro b1; refine Q.r ?_))
  refine S.cr rfl (vaultOf_spec p v self j.v.dim mp md _) ?_
  rintro _ _ ⟨rfl, rfl⟩
  refine Q.r ?_; (repeat (intro b1; refine Q.r ?_))
  refine S.cv v rfl (Mark_spec v j.v _) ?_
  rintro _ _ ⟨rfl, rfl⟩
  refine Q.r ?_; (repeat (intro b1; refine Q.r ?_))
  exact N.r1 (RV.tmp rfl RV.nil) (Ent.trans (Ent.perm (.swap _ _ _)) (jur_shut hq rfl)) ⟨rfl, rfl⟩
theorem JIntents_spec (M : Nat → Option Obj) (p : Nat) (j : JS) (n : Nat) (L : List HP) (hw : WF j.v n) (hn : n ≤ 10000) :
    CallsS Tryz.prog 10 [ptrJ p] (jurH M p j :: roM M :: L) (fun r L' => ∃ (a : Option Addr) (c : Nat) (es : List IV) (M' : Nat → Option Obj), r = .slice a es.length c ∧ leM M M' ∧ SlM M' a es.length 3 (es.flatMap IV.cells) ∧ (∀ e ∈ es, okI M' e) ∧ (es.map IV.abs).Perm j.v.its ∧ L' = jurH M' p j :: roM M' :: L) := by
  refine calls_jur fun v mp md self ps hq => ?_
  refine CallsS.of_body Tryz.func10 rfl rfl rfl ?_
  refine Q.r ?_; (repeat (intro b1; refine Q.r ?_))
  refine S.cr rfl (vaultOf_spec p v self j.v.dim mp md _) ?_
  rintro _ _ ⟨rfl, rfl⟩
  refine Q.r ?_; (repeat (intro b1; refine Q.r ?_))
  refine S.cv v rfl (IntentsO_spec v j.v n _ hw hn) ?_
  rintro _ _ ⟨a, c, es, rfl, hp, hs, rfl⟩
  refine opsS_abs a (fun M1 hl1 hs1 => ?_)
  refine opsS_absI es (fun M2 hl2 hs2 => ?_)
  refine Q.r ?_; (repeat (intro b1; refine Q.r ?_))
  refine N.r1 (RV.tmp rfl RV.nil) (Ent.trans (M := jP p v self j.v.dim mp md :: vaultH v j.v :: jT mp ps :: jD md j.done :: roM M2 :: L) (by repeat (first | exact Ent.refl _ | exact Ent.nil | refine Ent.pick ?_ | refine Ent.nilS ?_ | refine Ent.nilM ?_ | refine Ent.drop ?_)) (jur_shut (hq.mono (hl1.trans hl2)) rfl)) ⟨a, c, es, M2, rfl, hl1.trans hl2, hs1.mono hl2, hs2, hp, rfl⟩
theorem JDump_spec (M : Nat → Option Obj) (p : Nat) (j : JS) (n : Nat) (L : List HP) (hw : WF j.v n) (hn : n ≤ 10000) :
    CallsS Tryz.prog 52 [ptrJ p] (jurH M p j :: roM M :: L) (fun r L' => ∃ (a : Option Addr) (c : Nat) (es : List EV) (M' : Nat → Option Obj), r = .slice a es.length c ∧ leM M M' ∧ SlM M' a es.length 2 (es.flatMap EV.cells) ∧ (∀ e ∈ es, okE M' e) ∧ (es.map EV.abs).Perm j.v.ch ∧ L' = jurH M' p j :: roM M' :: L) := by
  refine calls_jur fun v mp md self ps hq => ?_
  refine CallsS.of_body Tryz.func52 rfl rfl rfl ?_
  refine Q.r ?_; (repeat (intro b1; refine Q.r ?_))
  refine S.cr rfl (vaultOf_spec p v self j.v.dim mp md _) ?_
  rintro _ _ ⟨rfl, rfl⟩
  refine Q.r ?_; (repeat (intro b1; refine Q.r ?_))
  refine S.cv v rfl (DumpO_spec v j.v n _ hw hn) ?_
  rintro _ _ ⟨a, c, es, rfl, hp, hs, rfl⟩
  refine opsS_abs a (fun M1 hl1 hs1 => ?_)
  refine opsS_absE es (fun M2 hl2 hs2 => ?_)
  refine Q.r ?_; (repeat (intro b1; refine Q.r ?_))
  refine N.r1 (RV.tmp rfl RV.nil) (Ent.trans (M := jP p v self j.v.dim mp md :: vaultH v j.v :: jT mp ps :: jD md j.done :: roM M2 :: L) (by repeat (first | exact Ent.refl _ | exact Ent.nil | refine Ent.pick ?_ | refine Ent.nilS ?_ | refine Ent.nilM ?_ | refine Ent.drop ?_)) (jur_shut (hq.mono (hl1.trans hl2)) rfl)) ⟨a, c, es, M2, rfl, hl1.trans hl2, hs1.mono hl2, hs2, hp, rfl⟩
theorem JDone_spec (M : Nat → Option Obj) (p : Nat) (j : JS) (t : Int) (L : List HP) :
    CallsS Tryz.prog 14 [ptrJ p, .int .u64 t] (jurH M p j :: L) (fun r L' => r = .tuple #[.int .u64 ((lkL j.done t).getD 0), .bool (lkL j.done t).isSome] ∧ L' = jurH M p j :: L) := by
  refine calls_jur fun v mp md self ps hq => ?_
  refine CallsS.of_body Tryz.func14 rfl rfl rfl ?_
  refine Q.r ?_; (repeat (intro b1; refine Q.r ?_))
  refine S.y (Y.lk true rfl rfl (fun w => Tryz.zeroValue30 w)) ?_
  cases hz : lkL j.done t with
  | none =>
    dsimp only
    refine Q.r ?_; (repeat (intro b1; refine Q.r ?_))
    exact N.r2 (RV.tmp rfl (RV.tmp rfl RV.nil)) (jur_shut hq rfl) ⟨rfl, rfl⟩
  | some s =>
    dsimp only
    refine Q.r ?_; (repeat (intro b1; refine Q.r ?_))
    exact N.r2 (RV.tmp rfl (RV.tmp rfl RV.nil)) (jur_shut hq rfl) ⟨rfl, rfl⟩
abbrev mailC (m : Int × NA) : List Value := Value.int .i64 m.1 :: m.2.nv.cells
theorem vote_spec (t c : Int) (L : List HP) :
    CallsS Tryz.prog 110 [.int .u64 t, .int .i64 c] L (fun r L' => r = .agg (mailC (voteN t c)).toArray ∧ L' = L) := by
  refine CallsS.of_body Tryz.func110 rfl rfl rfl ?_
  refine Q.r ?_; (repeat (intro b1; refine Q.r ?_))
  exact N.r1 (by apply RV.cellN; rfl; exact RdC.row; rfl; exact RV.nil) (Ent.drop (Ent.refl _)) ⟨rfl, rfl⟩
end Go.Proofs.YtjidejcehmamkaaGreatDoor
namespace Go.Proofs.YtjidejcehmamkaaGreatDoor
open Go Go.SX
attribute [local irreducible] swp opsS thenS blockS retS CallsS St Ent YieldS anyS drawS
abbrev IV.zero : IV := ⟨0, 0, none, 0, []⟩
theorem okI.zero {M : Nat → Option Obj} : okI M IV.zero := ⟨SlM.nil0, fun o ho => by cases ho⟩
set_option maxHeartbeats 1000000 in
theorem intent_spec (M : Nat → Option Obj) (p : Nat) (j : JS) (n : Nat) (t : Int) (L : List HP) (hw : WFK j.v n) (hn : n ≤ 10000) :
    CallsS Tryz.prog 109 [ptrJ p, .int .u64 t] (jurH M p j :: roM M :: L) (fun r L' => ∃ (i : IV) (M' : Nat → Option Obj), r = .tuple #[i.val, .bool (lkL j.v.its t).isSome] ∧ leM M M' ∧ okI M' i ∧ (∀ x, lkL j.v.its t = some x → i.after = x.1 ∧ i.ops.map OV.abs = x.2) ∧ L' = jurH M' p j :: roM M' :: L) := by
  refine CallsS.of_body Tryz.func109 rfl rfl rfl ?_
  refine Q.r ?_; (repeat (intro b1; refine Q.r ?_))
  refine S.cj p rfl (JIntents_spec M p j n _ hw.wf hn) ?_
  rintro _ _ ⟨a, c, es, M', rfl, hl, hs, hok, hp, rfl⟩
  refine Q.r ?_; (repeat (intro b1; refine Q.r ?_))
  have hle : es.length ≤ 10000 := by
    have := hp.length_eq
    rw [List.length_map] at this
    have h2 := hw.wf.il
    omega
  refine swp_cutB (σ := Unit) (fun _ => [(4, .pointer (some ⟨b1, 0, none⟩))]) (fun _ => pt b1 (cl IV.zero.cells 44) :: jurH M' p j :: roM M' :: L) (fun _ => lkL j.v.its t = none) ?_ ?_
  · refine swp_loop (σ := Nat) (fun k => [(1, .int .u64 t), (4, .pointer (some ⟨b1, 0, none⟩)), (9, .slice a es.length c), (10, .int .i64 es.length), (11, .int .i64 k)])
      (fun _ => pt b1 (cl IV.zero.cells 44) :: jurH M' p j :: roM M' :: L) (fun k => k ≤ es.length ∧ ∀ e ∈ es.take k, e.txn ≠ t) (fun k => es.length - k) 0 ⟨rfl, rfl, rfl, rfl, rfl, trivial⟩ (by repeat (first | exact Ent.refl _ | exact Ent.nil | refine Ent.pick ?_ | refine Ent.nilS ?_ | refine Ent.nilM ?_ | refine Ent.drop ?_)) ⟨by omega, by simp⟩ ?_
    rintro k ⟨hk1, hk2⟩
    by_cases hlt : k < es.length
    · obtain ⟨e, he⟩ := mem_get hlt
      have hme : e ∈ es := List.mem_of_getElem? he
      obtain ⟨b, o, rfl, hr⟩ := RdS.elem (g := IV.cells) (fun _ => rfl) (L := pt b1 (cl IV.zero.cells 44) :: jurH M' p j :: roM M' :: L) hs.rd he rfl
      by_cases ht : e.txn = t
      · have hlk : lkL j.v.its t = some (e.after, e.ops.map OV.abs) := (lkL_iff hw.k2).2 (by rw [← ht]; exact hp.mem_iff.1 (List.mem_map_of_mem (f := IV.abs) hme))
        rw [hlk]
        refine Q.r ?_; (repeat (intro b1; refine Q.r ?_))
        exact N.r2 (by apply RV.cellN; rfl; exact RdC.row; rfl; exact RV.tmp rfl RV.nil) (by repeat (first | exact Ent.refl _ | exact Ent.nil | refine Ent.pick ?_ | refine Ent.nilS ?_ | refine Ent.nilM ?_ | refine Ent.drop ?_)) ⟨e, M', rfl, hl, hok e hme, (fun x hx => by cases hx; exact ⟨rfl, rfl⟩), rfl⟩
      · refine Q.r ?_; (repeat (intro b1; refine Q.r ?_))
        refine ⟨k + 1, ⟨rfl, rfl, rfl, rfl, rfl, trivial⟩, by repeat (first | exact Ent.refl _ | exact Ent.nil | refine Ent.pick ?_ | refine Ent.nilS ?_ | refine Ent.nilM ?_ | refine Ent.drop ?_), ⟨by omega, fun x hx => ?_⟩, by omega⟩
        rw [take_snoc he] at hx
        rcases List.mem_append.1 hx with hx | hx
        · exact hk2 x hx
        · rw [List.mem_singleton.1 hx]; exact ht
    · have hke : k = es.length := by omega
      subst hke
      rw [List.take_length] at hk2
      have hlk : lkL j.v.its t = none := lkL_none fun u hu e => by
        obtain ⟨x, hx, rfl⟩ := List.mem_map.1 (hp.mem_iff.2 hu)
        exact hk2 x hx e
      refine Q.r ?_; (repeat (intro b1; refine Q.r ?_))
      exact ⟨(), ⟨rfl, trivial⟩, by repeat (first | exact Ent.refl _ | exact Ent.nil | refine Ent.pick ?_ | refine Ent.nilS ?_ | refine Ent.nilM ?_ | refine Ent.drop ?_), hlk⟩
  · rintro _ h0
    refine Q.r ?_; (repeat (intro b1; refine Q.r ?_))
    rw [h0]
    exact N.r2 (by apply RV.cellN; rfl; exact RdC.row; rfl; exact RV.tmp rfl RV.nil) (by repeat (first | exact Ent.refl _ | exact Ent.nil | refine Ent.pick ?_ | refine Ent.nilS ?_ | refine Ent.nilM ?_ | refine Ent.drop ?_)) ⟨IV.zero, M', rfl, hl, okI.zero, (fun x hx => by cases hx), rfl⟩
theorem taken1_spec (b : Nat) (o x : OV) (A : List HP) : CallsS Tryz.prog 155 ([] ++ [x.val] ++ [.pointer (some ⟨b, 0, none⟩)]) (pt b (cl o.cells 46) :: A) (fun v L' => v = .bool (decide (x.id = o.id)) ∧ L' = pt b (cl o.cells 46) :: A) := by
  refine CallsS.of_body Tryz.func155 rfl rfl rfl ?_
  refine Q.r ?_; (repeat (intro b1; refine Q.r ?_))
  exact N.r1 (RV.tmp rfl RV.nil) (Ent.drop (Ent.refl _)) ⟨rfl, rfl⟩
theorem above1_spec (b : Nat) (e : EV) (x : OV) (A : List HP) : CallsS Tryz.prog 156 ([] ++ [x.val] ++ [.pointer (some ⟨b, 0, none⟩)]) (pt b (cl e.cells 128) :: A) (fun v L' => v = .bool (decide (x.id = e.id)) ∧ L' = pt b (cl e.cells 128) :: A) := by
  refine CallsS.of_body Tryz.func156 rfl rfl rfl ?_
  refine Q.r ?_; (repeat (intro b1; refine Q.r ?_))
  exact N.r1 (RV.tmp rfl RV.nil) (Ent.drop (Ent.refl _)) ⟨rfl, rfl⟩
set_option maxHeartbeats 1000000 in
theorem taken_spec (M : Nat → Option Obj) (p : Nat) (j : JS) (n : Nat) (a0 : Option Addr) (c0 : Nat) (ops : List OV) (L : List HP) (hw : WFK j.v n) (hn : n ≤ 10000) (ho : SlM M a0 ops.length 2 (ops.flatMap OV.cells)) (hol : ops.length ≤ 1000000) :
    CallsS Tryz.prog 111 [ptrJ p, .slice a0 ops.length c0] (jurH M p j :: roM M :: L) (fun r L' => ∃ (M' : Nat → Option Obj), r = .bool (takenV j.v (ops.map OV.abs)) ∧ leM M M' ∧ L' = jurH M' p j :: roM M' :: L) := by
  refine CallsS.of_body Tryz.func111 rfl rfl rfl ?_
  refine Q.r ?_; (repeat (intro b1; refine Q.r ?_))
  refine S.cj p rfl (JIntents_spec M p j n _ hw.wf hn) ?_
  rintro _ _ ⟨a, c, es, M', rfl, hl, hs, hok, hp, rfl⟩
  refine Q.r ?_; (repeat (intro b1; refine Q.r ?_))
  have hle : es.length ≤ 10000 := by
    have := hp.length_eq
    rw [List.length_map] at this
    have h2 := hw.wf.il
    omega
  have hte : takenV j.v (ops.map OV.abs) = es.any fun e => e.ops.any fun o => ops.any fun x => decide (x.id = o.id) := by
    unfold takenV
    rw [← hp.any_eq, List.any_map]
    congr 1; funext e
    rw [show ((fun i : Int × Int × VL => i.2.2.any fun o => holdsV (ops.map OV.abs) o.1) ∘ IV.abs) e = (e.ops.map OV.abs).any fun o => holdsV (ops.map OV.abs) o.1 from rfl, List.any_map]
    congr 1; funext o
    show holdsV (ops.map OV.abs) o.id = _
    rw [holds_abs]
  rw [hte]
  have hopl : ∀ e ∈ es, e.ops.length ≤ 16 := fun e he => by
    have := (hw.wf.io e.abs (hp.mem_iff.1 (List.mem_map_of_mem (f := IV.abs) he))).1
    simpa using this
  refine swp_cutB (σ := Unit) (fun _ => []) (fun _ => jurH M' p j :: roM M' :: L) (fun _ => (es.any fun e => e.ops.any fun o => ops.any fun x => decide (x.id = o.id)) = false) ?_ ?_
  · refine swp_loop (σ := Nat) (fun k => [(1, .slice a0 ops.length c0), (10, .slice a es.length c), (11, .int .i64 es.length), (12, .int .i64 k)])
      (fun _ => jurH M' p j :: roM M' :: L) (fun k => k ≤ es.length ∧ ((es.take k).any fun e => e.ops.any fun o => ops.any fun x => decide (x.id = o.id)) = false) (fun k => es.length - k) 0 ⟨rfl, rfl, rfl, rfl, trivial⟩ (by repeat (first | exact Ent.refl _ | exact Ent.nil | refine Ent.pick ?_ | refine Ent.nilS ?_ | refine Ent.nilM ?_ | refine Ent.drop ?_)) ⟨by omega, by simp⟩ ?_
    rintro k ⟨hk1, hk2⟩
    by_cases hlt : k < es.length
    · obtain ⟨e, he⟩ := mem_get hlt
      have hme : e ∈ es := List.mem_of_getElem? he
      have hel := hopl e hme
      obtain ⟨b, o, hab, hr⟩ := RdS.elem (g := IV.cells) (fun _ => rfl) (L := jurH M' p j :: roM M' :: L) hs.rd he rfl
      rw [hab]
      refine Q.r ?_; (repeat (intro b1; refine Q.r ?_))
      refine swp_loop (σ := Nat) (fun m => [(1, .slice a0 ops.length c0), (10, .slice (some ⟨b, o, none⟩) es.length c), (11, .int .i64 es.length), (12, .int .i64 k), (17, .slice e.a e.ops.length e.c), (18, .int .i64 e.ops.length), (19, .int .i64 m)])
          (fun _ => jurH M' p j :: roM M' :: L) (fun m => m ≤ e.ops.length ∧ ((e.ops.take m).any fun o => ops.any fun x => decide (x.id = o.id)) = false) (fun m => e.ops.length - m) 0 ⟨rfl, rfl, rfl, rfl, rfl, rfl, rfl, trivial⟩ (by repeat (first | exact Ent.refl _ | exact Ent.nil | refine Ent.pick ?_ | refine Ent.nilS ?_ | refine Ent.nilM ?_ | refine Ent.drop ?_)) ⟨by omega, by simp⟩ ?_
      rintro m ⟨hm1, hm2⟩
      by_cases hmt : m < e.ops.length
      · obtain ⟨u, hu⟩ := mem_get hmt
        have hmu : u ∈ e.ops := List.mem_of_getElem? hu
        obtain ⟨bu, ou, hau, hru⟩ := RdS.elem (g := OV.cells) (fun _ => rfl) (L := jurH M' p j :: roM M' :: L) (hok e hme).1.rd hu rfl
        rw [hau]
        refine Q.r ?_; (repeat (intro b1; refine Q.r ?_))
        refine S.y (Y.mf rfl rfl) ?_
        refine S.cr rfl (HasO_spec 155 [] [.pointer (some ⟨b1, 0, none⟩)] (fun x => decide (x.id = u.id)) a0 c0 ops _ (ho.mono hl).rd (by omega) (fun x hx => taken1_spec b1 u x _)) ?_
        rintro _ _ ⟨rfl, rfl⟩
        cases hany : ops.any fun x => decide (x.id = u.id) with
        | true =>
          refine Q.r ?_; (repeat (intro b1; refine Q.r ?_))
          refine N.r1 (RV.tmp rfl RV.nil) (by repeat (first | exact Ent.refl _ | exact Ent.nil | refine Ent.pick ?_ | refine Ent.nilS ?_ | refine Ent.nilM ?_ | refine Ent.drop ?_)) ⟨M', ?_, hl, rfl⟩
          rw [List.any_eq_true.2 ⟨e, hme, List.any_eq_true.2 ⟨u, hmu, hany⟩⟩]
        | false =>
          refine Q.r ?_; (repeat (intro b1; refine Q.r ?_))
          refine ⟨m + 1, ⟨rfl, rfl, rfl, rfl, rfl, rfl, rfl, trivial⟩, by repeat (first | exact Ent.refl _ | exact Ent.nil | refine Ent.pick ?_ | refine Ent.nilS ?_ | refine Ent.nilM ?_ | refine Ent.drop ?_), ⟨by omega, ?_⟩, by omega⟩
          rw [take_snoc hu, List.any_append, hm2, List.any_cons, hany]; rfl
      · have hme2 : m = e.ops.length := by omega
        subst hme2
        rw [List.take_length] at hm2
        refine Q.r ?_; (repeat (intro b1; refine Q.r ?_))
        refine ⟨k + 1, ⟨rfl, rfl, rfl, rfl, trivial⟩, by repeat (first | exact Ent.refl _ | exact Ent.nil | refine Ent.pick ?_ | refine Ent.nilS ?_ | refine Ent.nilM ?_ | refine Ent.drop ?_), ⟨by omega, ?_⟩, by omega⟩
        rw [take_snoc he, List.any_append, hk2, List.any_cons, hm2]; rfl
    · have hke : k = es.length := by omega
      subst hke
      rw [List.take_length] at hk2
      refine Q.r ?_; (repeat (intro b1; refine Q.r ?_))
      exact ⟨(), trivial, by repeat (first | exact Ent.refl _ | exact Ent.nil | refine Ent.pick ?_ | refine Ent.nilS ?_ | refine Ent.nilM ?_ | refine Ent.drop ?_), hk2⟩
  · rintro _ h0
    refine Q.r ?_; (repeat (intro b1; refine Q.r ?_))
    rw [h0]
    exact N.r1 (RV.tmp rfl RV.nil) (by repeat (first | exact Ent.refl _ | exact Ent.nil | refine Ent.pick ?_ | refine Ent.nilS ?_ | refine Ent.nilM ?_ | refine Ent.drop ?_)) ⟨M', rfl, hl, rfl⟩
theorem last_get {vs : List OV} (h : 0 < vs.length) : ∃ u, vs[vs.length - 1]? = some u ∧ lastS (vs.map OV.abs) = u.id := by
  refine ⟨vs[vs.length - 1], List.getElem?_eq_getElem (by omega), ?_⟩
  unfold lastS
  rw [List.getLast?_map, List.getLast?_eq_getElem?, List.getElem?_eq_getElem (by omega)]
  rfl
set_option maxHeartbeats 1000000 in
theorem above_spec (M : Nat → Option Obj) (p : Nat) (j : JS) (n : Nat) (s : Int) (a0 : Option Addr) (c0 : Nat) (ops : List OV) (L : List HP) (hw : WFK j.v n) (hn : n ≤ 10000) (hne : ∀ c ∈ j.v.ch, 0 < c.2.length) (ho : SlM M a0 ops.length 2 (ops.flatMap OV.cells)) (hol : ops.length ≤ 1000000) :
    CallsS Tryz.prog 112 [ptrJ p, .int .u64 s, .slice a0 ops.length c0] (jurH M p j :: roM M :: L) (fun r L' => ∃ (M' : Nat → Option Obj), r = .bool (aboveV j.v s (ops.map OV.abs)) ∧ leM M M' ∧ L' = jurH M' p j :: roM M' :: L) := by
  refine CallsS.of_body Tryz.func112 rfl rfl rfl ?_
  refine Q.r ?_; (repeat (intro b1; refine Q.r ?_))
  refine S.cj p rfl (JDump_spec M p j n _ hw.wf hn) ?_
  rintro _ _ ⟨a, c, es, M', rfl, hl, hs, hok, hp, rfl⟩
  refine Q.r ?_; (repeat (intro b1; refine Q.r ?_))
  have hle : es.length ≤ 160000 := by
    have := hp.length_eq
    rw [List.length_map] at this
    have h2 := hw.wf.cl
    omega
  have hte : aboveV j.v s (ops.map OV.abs) = !es.any fun e => decide (s ≤ lastS (e.vs.map OV.abs)) && ops.any fun x => decide (x.id = e.id) := by
    unfold aboveV
    rw [← hp.any_eq, List.any_map]
    congr 2; funext e
    show (decide (s ≤ lastS (e.vs.map OV.abs)) && holdsV (ops.map OV.abs) e.id) = _
    rw [holds_abs]
  rw [hte]
  have hvl : ∀ e ∈ es, 0 < e.vs.length ∧ e.vs.length ≤ 10000 := fun e he => by
    have hm := hp.mem_iff.1 (List.mem_map_of_mem (f := EV.abs) he)
    have h1 := hne _ hm
    have h2 := (hw.wf.co _ hm).2.1
    simp at h1 h2
    omega
  refine swp_cutB (σ := Unit) (fun _ => []) (fun _ => jurH M' p j :: roM M' :: L) (fun _ => (es.any fun e => decide (s ≤ lastS (e.vs.map OV.abs)) && ops.any fun x => decide (x.id = e.id)) = false) ?_ ?_
  · refine swp_loop (σ := Nat) (fun k => [(1, .int .u64 s), (2, .slice a0 ops.length c0), (11, .slice a es.length c), (12, .int .i64 es.length), (13, .int .i64 k)])
      (fun _ => jurH M' p j :: roM M' :: L) (fun k => k ≤ es.length ∧ ((es.take k).any fun e => decide (s ≤ lastS (e.vs.map OV.abs)) && ops.any fun x => decide (x.id = e.id)) = false) (fun k => es.length - k) 0 ⟨rfl, rfl, rfl, rfl, rfl, trivial⟩ (by repeat (first | exact Ent.refl _ | exact Ent.nil | refine Ent.pick ?_ | refine Ent.nilS ?_ | refine Ent.nilM ?_ | refine Ent.drop ?_)) ⟨by omega, by simp⟩ ?_
    rintro k ⟨hk1, hk2⟩
    by_cases hlt : k < es.length
    · obtain ⟨e, he⟩ := mem_get hlt
      have hme : e ∈ es := List.mem_of_getElem? he
      have hel := hvl e hme
      obtain ⟨b, o, hab, hr⟩ := RdS.elem (g := EV.cells) (fun _ => rfl) (L := jurH M' p j :: roM M' :: L) hs.rd he rfl
      rw [hab]
      obtain ⟨u, hu, hul⟩ := last_get hel.1
      obtain ⟨bu, ou, hau, hru⟩ := RdS.elem (g := OV.cells) (fun _ => rfl) (L := jurH M' p j :: roM M' :: L) (hok e hme).1.rd hu rfl
      have hru0 := hru.head
      by_cases hc : s ≤ u.id
      · repeat (first | refine S.y (Y.ldRj rfl (by first | assumption | exact RdC.sub (by assumption)) rfl) ?_ | refine Q.yn ?_ | refine S.stI rfl rfl (by first | omega | (rw [Array.size_setIfInBounds]; omega)) ?_ | (refine GQ.y ?_; refine Q.y ?_) | refine Q.go ?_ | (refine GQ.g ?_; refine Q.gq ?_) | (refine GQ.s ?_; refine Q.st ?_) | (refine GQ.g ?_; refine Q.gd ?_) | refine Q.ct rfl ?_ | refine Q.cf rfl ?_ | (refine GQ.a ?_; refine Q.al (fun b1 => ?_)))
        rw [hau]
        repeat (first | refine S.y (Y.ldRj rfl (by first | assumption | exact RdC.sub (by assumption)) rfl) ?_ | refine Q.yn ?_ | refine S.stI rfl rfl (by first | omega | (rw [Array.size_setIfInBounds]; omega)) ?_ | (refine GQ.y ?_; refine Q.y ?_) | refine Q.go ?_ | (refine GQ.g ?_; refine Q.gq ?_) | (refine GQ.s ?_; refine Q.st ?_) | (refine GQ.g ?_; refine Q.gd ?_) | refine Q.ct rfl ?_ | refine Q.cf rfl ?_ | (refine GQ.a ?_; refine Q.al (fun b1 => ?_)))
        refine S.y (Y.mf rfl rfl) ?_
        refine Q.r ?_; (repeat (intro b1; refine Q.r ?_))
        refine S.cr rfl (HasO_spec 156 [] [.pointer (some ⟨b1, 0, none⟩)] (fun x => decide (x.id = e.id)) a0 c0 ops _ (ho.mono hl).rd (by omega) (fun x hx => by have := above1_spec b1 e x (jurH M' p j :: roM M' :: L); rw [← hau]; exact this)) ?_
        rintro _ _ ⟨rfl, rfl⟩
        have hce : decide (s ≤ lastS (e.vs.map OV.abs)) = true := by rw [hul]; exact decide_eq_true hc
        cases hany : ops.any fun x => decide (x.id = e.id) with
        | true =>
          refine Q.r ?_; (repeat (intro b1; refine Q.r ?_))
          refine N.r1 (RV.tmp rfl RV.nil) (by repeat (first | exact Ent.refl _ | exact Ent.nil | refine Ent.pick ?_ | refine Ent.nilS ?_ | refine Ent.nilM ?_ | refine Ent.drop ?_)) ⟨M', ?_, hl, rfl⟩
          rw [List.any_eq_true.2 ⟨e, hme, by rw [hce, hany]; rfl⟩]; rfl
        | false =>
          refine Q.r ?_; (repeat (intro b1; refine Q.r ?_))
          refine ⟨k + 1, ⟨rfl, rfl, rfl, rfl, rfl, trivial⟩, by repeat (first | exact Ent.refl _ | exact Ent.nil | refine Ent.pick ?_ | refine Ent.nilS ?_ | refine Ent.nilM ?_ | refine Ent.drop ?_), ⟨by omega, ?_⟩, by omega⟩
          rw [take_snoc he, List.any_append, hk2, List.any_cons, hany, Bool.and_false]; rfl
      · repeat (first | refine S.y (Y.ldRj rfl (by first | assumption | exact RdC.sub (by assumption)) rfl) ?_ | refine Q.yn ?_ | refine S.stI rfl rfl (by first | omega | (rw [Array.size_setIfInBounds]; omega)) ?_ | (refine GQ.y ?_; refine Q.y ?_) | refine Q.go ?_ | (refine GQ.g ?_; refine Q.gq ?_) | (refine GQ.s ?_; refine Q.st ?_) | (refine GQ.g ?_; refine Q.gd ?_) | refine Q.ct rfl ?_ | refine Q.cf rfl ?_ | (refine GQ.a ?_; refine Q.al (fun b1 => ?_)))
        rw [hau]
        repeat (first | refine S.y (Y.ldRj rfl (by first | assumption | exact RdC.sub (by assumption)) rfl) ?_ | refine Q.yn ?_ | refine S.stI rfl rfl (by first | omega | (rw [Array.size_setIfInBounds]; omega)) ?_ | (refine GQ.y ?_; refine Q.y ?_) | refine Q.go ?_ | (refine GQ.g ?_; refine Q.gq ?_) | (refine GQ.s ?_; refine Q.st ?_) | (refine GQ.g ?_; refine Q.gd ?_) | refine Q.ct rfl ?_ | refine Q.cf rfl ?_ | (refine GQ.a ?_; refine Q.al (fun b1 => ?_)))
        have hce : decide (s ≤ lastS (e.vs.map OV.abs)) = false := by rw [hul]; exact decide_eq_false hc
        refine ⟨k + 1, ⟨rfl, rfl, rfl, rfl, rfl, trivial⟩, by repeat (first | exact Ent.refl _ | exact Ent.nil | refine Ent.pick ?_ | refine Ent.nilS ?_ | refine Ent.nilM ?_ | refine Ent.drop ?_), ⟨by omega, ?_⟩, by omega⟩
        rw [take_snoc he, List.any_append, hk2, List.any_cons, hce]; rfl
    · have hke : k = es.length := by omega
      subst hke
      rw [List.take_length] at hk2
      refine Q.r ?_; (repeat (intro b1; refine Q.r ?_))
      exact ⟨(), trivial, by repeat (first | exact Ent.refl _ | exact Ent.nil | refine Ent.pick ?_ | refine Ent.nilS ?_ | refine Ent.nilM ?_ | refine Ent.drop ?_), hk2⟩
  · rintro _ h0
    refine Q.r ?_; (repeat (intro b1; refine Q.r ?_))
    rw [h0]
    exact N.r1 (RV.tmp rfl RV.nil) (by repeat (first | exact Ent.refl _ | exact Ent.nil | refine Ent.pick ?_ | refine Ent.nilS ?_ | refine Ent.nilM ?_ | refine Ent.drop ?_)) ⟨M', rfl, hl, rfl⟩
end Go.Proofs.YtjidejcehmamkaaGreatDoor
