/- Notes: as they lie; sorted, held. Notes: bare, bounded, sorted, Right. Notes: sorted, Right. The juror: notes, plans and records as laws of states. The juror: what it plans can be applied; what is over stays so. The vault: what Intents gives. VaultHolds: what is kept; the law, walked. The juror: what every record keeps, also one that was never planned. The ref's vault: At, Blocked, Get, Scan. The vault and the ref's: Get, Scan; SameHits, Mark. The vault: Scan. The vault: Intents, Dump, as what they give is owned. What is asked of vaults: Last, SameIntents, SameEntries, intents, entries. The juror as it lies; its simple calls. The juror: intent, taken, above. The juror: prepare. The juror: decide. The juror: Plan. The juror: Apply. The juror: New; the law's example. The document's note, cut: Hits, Few. The document's notes: fields by letters, Right, apart from any program. The juror's laws, apart from the program: votes, what comes twice. The document's notes: Name, has, num, vec, Right. The ref's juror: as it lies; Find. The document's notes and mail: are they alike? Calls whose contracts want two or three of the list's assertions in front. The ref's juror: Do. The ref's juror: Apply. Plans as the document has them; lists of notes, alike. JurorOnce: the walk. The juror's step, with the document's. JurorLocks: the walk. JurorVotes: the walk. The juror's Pack: what lasts, as bytes; keys, finished. The juror's numbers aren't too great, whatever comes. The juror's Pack, walked. JurorAgain: the walk. Readings opened: from what the arguments read as to cells that stay; rows. The readings of the vault's ops. The readings of the vault's steps. The readings of the juror's notes; the table of the kinds. The table of the kinds: from what the row lists to its cells. The judge: what it is, as it lies; its small functions. What follows behind a call, by what lies there. The judge: what it plans for a vote, an acknowledgement, a probe. No condition. -/
import Derived.ReadAgain
import Derived.ChangeArms
import Derived.WideShapes
import Derived.KernelRfl
import Derived.Test.YtiampehfpgcogaaDoorRows
import Derived.WalkKit
import Derived.ProofKit
import Derived.OpenShut
import Derived.DataShut
import Derived.Test.YtiampehfpgcogaaDoorCards
import Derived.Test.YtiampehfpgcogaaDoorTie
import Derived.Deep.DeepHandedRow
import Derived.Lib.LaidTab
import Derived.Test.YtiampehfpgcogaaDoorPk04
set_option linter.unusedVariables false
set_option linter.unusedSimpArgs false
set_option linter.unusedSectionVars false
namespace Go.Proofs.YtiampehfpgcogaaDoor
open Go Go.SX
attribute [local irreducible] swp opsS thenS blockS retS CallsS St Ent YieldS anyS drawS
structure HV where
  id : Int
  dist : Int
  a : Option Addr
  c : Nat
  vec : List Int
abbrev HV.cells (h : HV) : List Value := [.int .u64 h.id, .int .u64 h.dist, .slice h.a h.vec.length h.c]
abbrev I64 : Int → Value := Value.int .i64
abbrev HV.val (h : HV) : Value := .agg #[.int .u64 h.id, .int .u64 h.dist, .slice h.a h.vec.length h.c]
abbrev HV.abs (h : HV) : Int × Int × List Int := (h.id, h.dist, h.vec)
structure NV where
  kind : Int
  txn : Int
  batch : Int
  stamp : Int
  after : Int
  mark : Int
  query : Int
  id : Int
  k : Int
  ef : Int
  code : Int
  who : Int
  pa : Option Addr
  pc : Nat
  parts : List Int
  oa : Option Addr
  oc : Nat
  ops : List OV
  va : Option Addr
  vc : Nat
  vec : List Int
  ha : Option Addr
  hc : Nat
  hits : List HV
abbrev NV.cells (n : NV) : List Value := [.int .u8 n.kind, .int .u64 n.txn, .int .u64 n.batch, .int .u64 n.stamp, .int .u64 n.after, .int .u64 n.mark, .int .u64 n.query, .int .u64 n.id, .int .i64 n.k, .int .i64 n.ef, .int .i64 n.code, .int .i64 n.who,
  .slice n.pa n.parts.length n.pc, .slice n.oa n.ops.length n.oc, .slice n.va n.vec.length n.vc, .slice n.ha n.hits.length n.hc]
abbrev NV.val (n : NV) : Value := .agg #[.int .u8 n.kind, .int .u64 n.txn, .int .u64 n.batch, .int .u64 n.stamp, .int .u64 n.after, .int .u64 n.mark, .int .u64 n.query, .int .u64 n.id, .int .i64 n.k, .int .i64 n.ef, .int .i64 n.code, .int .i64 n.who,
  .slice n.pa n.parts.length n.pc, .slice n.oa n.ops.length n.oc, .slice n.va n.vec.length n.vc, .slice n.ha n.hits.length n.hc]
def NV.bits (n : NV) : List Bool := [decide (0 < n.txn), decide (0 < n.batch), decide (0 < n.stamp), decide (0 < n.after), decide (0 < n.mark), decide (0 < n.query), decide (0 < n.id), !decide (n.k = 0), !decide (n.ef = 0), !decide (n.code = 0), !decide (n.who = 0), decide (0 < (n.parts.length : Int)), decide (0 < (n.ops.length : Int)), decide (0 < (n.vec.length : Int)), decide (0 < (n.hits.length : Int))]
structure NA where
  kind : Int
  txn : Int
  batch : Int
  stamp : Int
  after : Int
  mark : Int
  query : Int
  id : Int
  k : Int
  ef : Int
  code : Int
  who : Int
  parts : List Int
  ops : VL
  vec : List Int
  hits : List (Int × Int × List Int)
abbrev NA.zero : NA := ⟨0, 0, 0, 0, 0, 0, 0, 0, 0, 0, 0, 0, [], [], [], []⟩
def NA.bits (n : NA) : List Bool := [decide (0 < n.txn), decide (0 < n.batch), decide (0 < n.stamp), decide (0 < n.after), decide (0 < n.mark), decide (0 < n.query), decide (0 < n.id), !decide (n.k = 0), !decide (n.ef = 0), !decide (n.code = 0), !decide (n.who = 0), decide (0 < (n.parts.length : Int)), decide (0 < (n.ops.length : Int)), decide (0 < (n.vec.length : Int)), decide (0 < (n.hits.length : Int))]
def fldN : Nat → Nat
  | 1 => 4098 | 2 => 518 | 3 => 6153 | 4 => 513 | 5 => 517 | 6 => 1 | 7 => 1 | 8 => 8672 | 9 => 8692 | 10 => 16928 | 11 => 16932 | 12 => 6153 | 13 => 5 | 14 => 1 | 15 => 16 | 16 => 16 | 17 => 2055 | 18 => 1 | 19 => 7179 | 20 => 1025 | 21 => 1025 | 22 => 1 | _ => 0
def bareV (v : List Int) : Bool := decide (v.length = 0) || rightV v
def badOp (o : Int × List Int) : Bool := decide (1099511627776 < o.1) || !bareV o.2
def badHit (h : Int × Int × List Int) : Bool := decide (1099511627776 < h.1) || !rightV h.2.2
def okP (l : List Int) (k : Nat) : Bool := decide (0 ≤ l.getD k 0) && decide (l.getD k 0 < 16) && (decide (k = 0) || decide (l.getD (k - 1) 0 < l.getD k 0))
def partsV (l : List Int) : Bool := (List.range l.length).all (okP l)
def boundN (n : NA) : Bool :=
  !(decide (1099511627776 < max (max n.stamp n.after) n.mark) || decide (1099511627776 < n.id) || decide (min (min (min n.k n.ef) n.who) n.code < 0) || decide (16 < n.k) || decide (256 < n.ef) || decide (16 ≤ n.who) || decide (13 < n.code)) &&
  !(decide (4 < n.parts.length) || decide (16 < n.ops.length) || decide (16 < n.hits.length) || !bareV n.vec) && partsV n.parts && !n.ops.any badOp && !n.hits.any badHit
def rightN (n : NA) : Bool := decide (1 ≤ n.kind ∧ n.kind ≤ 22) && (n.bits.zipIdx.all fun b => !b.1 || (fldN n.kind.toNat).testBit b.2) && boundN n
abbrev NV.abs (n : NV) : NA := ⟨n.kind, n.txn, n.batch, n.stamp, n.after, n.mark, n.query, n.id, n.k, n.ef, n.code, n.who, n.parts, n.ops.map OV.abs, n.vec, n.hits.map HV.abs⟩
theorem NV.bits_abs (n : NV) : n.abs.bits = n.bits := by unfold NA.bits NV.bits; simp
structure RdN (A : List HP) (n : NV) : Prop where
  p : RdS A n.pa n.parts.length 1 (n.parts.map I64)
  o : RdO A n.oa n.ops
  v : RdS A n.va n.vec.length 1 (n.vec.map I32)
  h : RdS A n.ha n.hits.length 3 (n.hits.flatMap HV.cells)
  hv : ∀ h ∈ n.hits, RdS A h.a h.vec.length 1 (h.vec.map I32)
theorem RdN.sub {A L : List HP} {n : NV} (h : RdN A n) [s : Sub A L] : RdN L n := ⟨h.p.sub, h.o.sub, h.v.sub, h.h.sub, fun x hx => (h.hv x hx).sub⟩
structure OkN (n : NV) : Prop where
  p : n.parts.length ≤ 1000000
  o : n.ops.length ≤ 1000000
  ov : ∀ o ∈ n.ops, o.vec.length ≤ 1000000
  v : n.vec.length ≤ 1000000
  h : n.hits.length ≤ 1000000
  hv : ∀ h ∈ n.hits, h.vec.length ≤ 1000000
def bitsN : List Bool → Nat
  | [] => 0
  | b :: l => (if b then 1 else 0) + 2 * bitsN l
theorem fit15 (b0 b1 b2 b3 b4 b5 b6 b7 b8 b9 b10 b11 b12 b13 b14 : Bool) : fitsL (rowL 1 15) (15 * 1) (cellsOf [(0, Value.bool b0), (1, Value.bool b1), (2, Value.bool b2), (3, Value.bool b3), (4, Value.bool b4), (5, Value.bool b5), (6, Value.bool b6), (7, Value.bool b7), (8, Value.bool b8), (9, Value.bool b9), (10, Value.bool b10), (11, Value.bool b11), (12, Value.bool b12), (13, Value.bool b13), (14, Value.bool b14)]) = true := by rfl
theorem fill15 (b0 b1 b2 b3 b4 b5 b6 b7 b8 b9 b10 b11 b12 b13 b14 : Bool) : fillL (rowL 1 15) [Value.bool false, Value.bool false, Value.bool false, Value.bool false, Value.bool false, Value.bool false, Value.bool false, Value.bool false, Value.bool false, Value.bool false, Value.bool false, Value.bool false, Value.bool false, Value.bool false, Value.bool false] (cellsOf [(0, Value.bool b0), (1, Value.bool b1), (2, Value.bool b2), (3, Value.bool b3), (4, Value.bool b4), (5, Value.bool b5), (6, Value.bool b6), (7, Value.bool b7), (8, Value.bool b8), (9, Value.bool b9), (10, Value.bool b10), (11, Value.bool b11), (12, Value.bool b12), (13, Value.bool b13), (14, Value.bool b14)]) = [Value.bool b0, Value.bool b1, Value.bool b2, Value.bool b3, Value.bool b4, Value.bool b5, Value.bool b6, Value.bool b7, Value.bool b8, Value.bool b9, Value.bool b10, Value.bool b11, Value.bool b12, Value.bool b13, Value.bool b14] := by kernel_rfl
section
variable {P : Program} {n : Nat} {ops : List Oper} {f : Env} {A : List HP} {d : Tmp} {ty : TypeId} {pos : String} {af : Array Edge}
theorem Y.ixa {x y : Operand} {t e : TypeId} {len bts i : Nat} {k : IntKind} {zs : List Value} {cs : Array Value} {v : Value} [h : ArrTy P t len e] [h2 : Ty P e false 1 zs bts] (hx : ev f x = some (.agg cs)) (hy : ev f y = some (.int k (i : Int))) (hi : i < len) (hv : cs[i]? = some v) :
    YieldS P n ops ⟨some d, .index t x y, ty, pos, af, none⟩ f A v :=
  Y.of (fun _ w s => by
    have e1 : (0 : Int) ≤ (i : Int) ∧ (i : Int) < (len : Int) := ⟨by omega, by omega⟩
    simp [execOp, s.eval hx, s.eval hy, Instr.index, asIntOf, h.und, e1, part, h2.agg, h2.size, hv, hi])
theorem Y.or {x y : Operand} {t t' : TypeId} {k : IntKind} {a b : Int} (hx : ev f x = some (.int k a)) (hy : ev f y = some (.int k b)) : YieldS P n ops ⟨some d, .binOp .or t x y t', ty, pos, af, none⟩ f A ((.int k (k.wrap ((BitVec.ofInt k.bits a) ||| (BitVec.ofInt k.bits b)).toNat))) :=  Y.of (fun _ w s => by simp [execOp, s.eval hx, s.eval hy, eqGuard, binOp, Op.intBits])
theorem Y.andNot {x y : Operand} {t t' : TypeId} {k : IntKind} {a b : Int} (hx : ev f x = some (.int k a)) (hy : ev f y = some (.int k b)) : YieldS P n ops ⟨some d, .binOp .andNot t x y t', ty, pos, af, none⟩ f A ((.int k (k.wrap ((BitVec.ofInt k.bits a) &&& ~~~(BitVec.ofInt k.bits b)).toNat))) :=  Y.of (fun _ w s => by simp [execOp, s.eval hx, s.eval hy, eqGuard, binOp, Op.intBits])
end
theorem or_wrap {a i : Nat} (ha : a < 2 ^ i) (hi : i < 15) : IntKind.i64.wrap (((BitVec.ofInt IntKind.i64.bits (a : Int)) ||| (BitVec.ofInt IntKind.i64.bits (IntKind.i64.wrap ((1 * 2 ^ i : Nat) : Int)))).toNat : Int) = ((a + 2 ^ i : Nat) : Int) := by
  have hp : 2 ^ i ≤ 2 ^ 14 := Nat.pow_le_pow_right (by omega) (by omega)
  have e0 : ∀ x : Nat, x < 1000000 → IntKind.i64.wrap (x : Int) = (x : Int) := fun x hx => wrap_i64 (by omega) (by omega)
  have e : ∀ x : Nat, x < 18446744073709551616 → (BitVec.ofInt IntKind.i64.bits (x : Int)).toNat = x := fun x hx => by
    show (BitVec.ofInt 64 (x : Int)).toNat = x
    simp; omega
  have e2 : IntKind.i64.wrap ((1 * 2 ^ i : Nat) : Int) = ((1 * 2 ^ i : Nat) : Int) := e0 _ (by omega)
  rw [e2, BitVec.toNat_or, e _ (by omega), e _ (by omega), Nat.one_mul]
  have h := Nat.two_pow_add_eq_or_of_lt ha 1
  rw [Nat.mul_one, Nat.or_comm] at h
  rw [← h, e0 _ (by omega), Nat.add_comm]
theorem bitsN_lt : ∀ l : List Bool, bitsN l < 2 ^ l.length
  | [] => by simp [bitsN]
  | b :: l => by
    have := bitsN_lt l
    rw [List.length_cons, Nat.pow_succ]
    unfold bitsN
    cases b <;> simp <;> omega
theorem bitsN_snoc (b : Bool) : ∀ l : List Bool, bitsN (l ++ [b]) = bitsN l + (if b then 2 ^ l.length else 0)
  | [] => by cases b <;> simp [bitsN]
  | c :: l => by
    have := bitsN_snoc b l
    rw [List.cons_append, List.length_cons, Nat.pow_succ]
    unfold bitsN
    rw [this]
    cases b <;> simp <;> omega
set_option maxHeartbeats 400000 in
theorem held_spec (n : NV) (L : List HP) : CallsS Tryd.prog 33 [n.val] L (fun r L' => r = .int .i64 (bitsN n.bits) ∧ L' = L) := by
  refine CallsS.of_body Tryd.func33 rfl rfl rfl ?_
  iterate 60 (first | (refine GQ.y ?_; refine Q.y ?_) | refine Q.go ?_ | (refine GQ.g ?_; refine Q.gq ?_) | (refine GQ.s ?_; refine Q.st ?_) | (refine GQ.a ?_; refine Q.al (fun b1 => ?_)))
  iterate 3 (first | (refine GQ.y ?_; refine Q.y ?_) | refine Q.go ?_ | (refine GQ.g ?_; refine Q.gq ?_) | (refine GQ.s ?_; refine Q.st ?_) | (refine GQ.a ?_; refine Q.al (fun b1 => ?_)))
  refine S.y (Y.bda (l := [_, _, _, _, _, _, _, _, _, _, _, _, _, _, _]) (cs := n.bits.map Value.bool) rfl rfl (fit15 _ _ _ _ _ _ _ _ _ _ _ _ _ _ _) (fill15 _ _ _ _ _ _ _ _ _ _ _ _ _ _ _)) ?_
  refine Q.r ?_; (repeat (intro b1; refine Q.r ?_))
  have hlen : n.bits.length = 15 := rfl
  refine swp_loop (σ := Nat) (fun s => [(1, .pointer (some ⟨b1, 0, none⟩)), (55, .agg (n.bits.map Value.bool).toArray), (3, .int .i64 (bitsN (n.bits.take s))), (56, .int .i64 s)])
    (fun _ => pt b1 (cl n.cells 39) :: L) (fun s => s ≤ 15) (fun s => 15 - s) 0 ⟨rfl, rfl, rfl, rfl, trivial⟩ (Ent.refl _) (by omega) ?_
  intro k hk
  by_cases hlt : k < 15
  · obtain ⟨b, hb⟩ := mem_get (l := n.bits) (by rw [hlen]; exact hlt)
    have hv : (n.bits.map Value.bool).toArray[k]? = some (.bool b) := by simp [hb]
    have htk : n.bits.take (k + 1) = n.bits.take k ++ [b] := take_snoc hb
    have hl : bitsN (n.bits.take k) < 2 ^ k := by
      have := bitsN_lt (n.bits.take k)
      rw [List.length_take, hlen, Nat.min_eq_left (by omega)] at this
      exact this
    have hs := bitsN_snoc b (n.bits.take k)
    rw [← htk, List.length_take, hlen, Nat.min_eq_left (by omega)] at hs
    refine Q.r ?_; (repeat (intro b1; refine Q.r ?_))
    refine S.y (Y.ixa rfl rfl hlt hv) ?_
    cases b with
    | true =>
      refine Q.r ?_; (repeat (intro b1; refine Q.r ?_))
      refine S.y (Y.shl (a := 1) rfl rfl (by show k ≤ 64; omega)) ?_
      refine Q.r ?_; (repeat (intro b1; refine Q.r ?_))
      refine S.y (Y.or rfl rfl) ?_
      rw [or_wrap hl hlt]
      refine Q.r ?_; (repeat (intro b1; refine Q.r ?_))
      exact ⟨k + 1, ⟨rfl, rfl, congrArg some (congrArg (fun z : Nat => Value.int .i64 (z : Int)) hs.symm), rfl, trivial⟩, Ent.refl _, by omega, by omega⟩
    | false =>
      refine Q.r ?_; (repeat (intro b1; refine Q.r ?_))
      exact ⟨k + 1, ⟨rfl, rfl, congrArg some (congrArg (fun z : Nat => Value.int .i64 (z : Int)) hs.symm), rfl, trivial⟩, Ent.refl _, by omega, by omega⟩
  · have : k = 15 := by omega
    subst this
    refine Q.r ?_; (repeat (intro b1; refine Q.r ?_))
    exact N.r1 (RV.tmp rfl RV.nil) (Ent.drop (Ent.refl _)) ⟨rfl, rfl⟩
end Go.Proofs.YtiampehfpgcogaaDoor
namespace Go.Proofs.YtiampehfpgcogaaDoor
open Go Go.SX
attribute [local irreducible] swp opsS thenS blockS retS CallsS St Ent YieldS anyS drawS
theorem IdxH_spec (f : FuncId) (fs cs : List Value) [he : Enters Tryd.prog f] (p : HV → Bool) (a : Option Addr) (c : Nat) (xs : List HV) (A : List HP) (h : RdS A a xs.length 3 (xs.flatMap HV.cells)) (hn : xs.length ≤ 4611686018427387904)
    (hf : ∀ x ∈ xs, CallsS Tryd.prog f (fs ++ [HV.val x] ++ cs) A (fun v L' => v = .bool (p x) ∧ L' = A)) :
    CallsS Tryd.prog 62 [.slice a xs.length c, .func (.func f) fs.toArray cs.toArray] A (fun v L' => (∃ i : Int, v = .int .i64 i ∧ decide (0 ≤ i) = xs.any p) ∧ L' = A) := by
  refine CallsS.of_body Tryd.func62 rfl rfl rfl ?_
  refine Q.r ?_; (repeat (intro b1; refine Q.r ?_))
  refine swp_loop (σ := Nat) (fun k => [(0, .slice a xs.length c), (1, .func (.func f) fs.toArray cs.toArray), (7, .int .i64 xs.length), (8, .int .i64 k)]) (fun _ => A)
    (fun k => k ≤ xs.length ∧ (xs.take k).any p = false) (fun k => xs.length - k) 0 ⟨rfl, rfl, rfl, rfl, trivial⟩ (Ent.refl _) ⟨by omega, by simp⟩ ?_
  rintro k ⟨hk, hany⟩
  by_cases hlt : k < xs.length
  · obtain ⟨x, hx⟩ := mem_get hlt
    obtain ⟨b, o, rfl, hr⟩ := RdS.elem (g := HV.cells) (fun _ => rfl) h hx rfl
    have hmx : x ∈ xs := List.mem_of_getElem? hx
    refine Q.r ?_; (repeat (intro b1; refine Q.r ?_))
    refine S.crF (fs := fs) (cs := cs) rfl rfl (hf x hmx) ?_
    rintro _ _ ⟨rfl, rfl⟩
    cases hp : p x with
    | true =>
      refine Q.r ?_; (repeat (intro b1; refine Q.r ?_))
      exact N.r1 (RV.tmp rfl RV.nil) (Ent.refl _) ⟨⟨_, rfl, by rw [show xs.any p = true from List.any_eq_true.2 ⟨x, hmx, hp⟩]; simp⟩, rfl⟩
    | false =>
      refine Q.r ?_; (repeat (intro b1; refine Q.r ?_))
      refine ⟨k + 1, ⟨rfl, rfl, rfl, rfl, trivial⟩, Ent.refl _, ⟨by omega, ?_⟩, by omega⟩
      rw [take_snoc hx, List.any_append, hany] <;> simp [hp]
  · have hke : k = xs.length := by omega
    subst hke
    rw [List.take_length] at hany
    refine Q.r ?_; (repeat (intro b1; refine Q.r ?_))
    exact N.r1 (RV.tmp rfl RV.nil) (Ent.refl _) ⟨⟨_, rfl, by rw [hany] <;> rfl⟩, rfl⟩
theorem HasH_spec (f : FuncId) (fs cs : List Value) [he : Enters Tryd.prog f] (p : HV → Bool) (a : Option Addr) (c : Nat) (xs : List HV) (A : List HP) (h : RdS A a xs.length 3 (xs.flatMap HV.cells)) (hn : xs.length ≤ 4611686018427387904)
    (hf : ∀ x ∈ xs, CallsS Tryd.prog f (fs ++ [HV.val x] ++ cs) A (fun v L' => v = .bool (p x) ∧ L' = A)) :
    CallsS Tryd.prog 52 [.slice a xs.length c, .func (.func f) fs.toArray cs.toArray] A (fun v L' => v = .bool (xs.any p) ∧ L' = A) := by
  refine CallsS.of_body Tryd.func52 rfl rfl rfl ?_
  refine Q.r ?_; (repeat (intro b1; refine Q.r ?_))
  refine S.cr rfl (IdxH_spec f fs cs p a c xs A h hn hf) ?_
  rintro _ _ ⟨⟨i, rfl, hi⟩, rfl⟩
  refine Q.r ?_; (repeat (intro b1; refine Q.r ?_))
  exact N.r1 (RV.tmp rfl RV.nil) (Ent.refl _) ⟨by rw [← hi], rfl⟩
theorem flat_I64 (xs : List Int) : xs.flatMap (fun z => [I64 z]) = xs.map I64 := by induction xs with
  | nil => rfl
  | cons x xs ih => rw [List.flatMap_cons, ih]; rfl
theorem bare_spec (a : Option Addr) (c : Nat) (xs : List Int) (A : List HP) (h : RdS A a xs.length 1 (xs.map I32)) (hn : xs.length ≤ 1000000) :
    CallsS Tryd.prog 49 [.slice a xs.length c] A (fun r L' => r = .bool (bareV xs) ∧ L' = A) := by
  unfold bareV
  refine CallsS.of_body Tryd.func49 rfl rfl rfl ?_
  by_cases h0 : xs.length = 0
  · refine Q.r ?_; (repeat (intro b1; refine Q.r ?_))
    exact N.r1 (RV.tmp rfl RV.nil) (Ent.refl _) ⟨by simp [h0], rfl⟩
  · refine Q.r ?_; (repeat (intro b1; refine Q.r ?_))
    refine S.cr rfl (Right_spec a c xs _ h.sub (by omega)) ?_
    rintro _ _ ⟨rfl, rfl⟩
    refine Q.r ?_; (repeat (intro b1; refine Q.r ?_))
    exact N.r1 (RV.tmp rfl RV.nil) (Ent.refl _) ⟨by simp [h0], rfl⟩
theorem bad1_spec (o : OV) (A : List HP) (h : RdS A o.a o.vec.length 1 (o.vec.map I32)) (hn : o.vec.length ≤ 1000000) :
    CallsS Tryd.prog 51 ([] ++ [o.val] ++ []) A (fun r L' => r = .bool (badOp o.abs) ∧ L' = A) := by
  unfold badOp
  refine CallsS.of_body Tryd.func51 rfl rfl rfl ?_
  by_cases h0 : 1099511627776 < o.id
  · refine Q.r ?_; (repeat (intro b1; refine Q.r ?_))
    exact N.r1 (RV.tmp rfl RV.nil) (Ent.drop (Ent.refl _)) ⟨by simp [h0], rfl⟩
  · refine Q.r ?_; (repeat (intro b1; refine Q.r ?_))
    refine S.cr rfl (bare_spec o.a o.c o.vec _ h.sub hn) ?_
    rintro _ _ ⟨rfl, rfl⟩
    refine Q.r ?_; (repeat (intro b1; refine Q.r ?_))
    exact N.r1 (RV.tmp rfl RV.nil) (Ent.drop (Ent.refl _)) ⟨by simp [h0], rfl⟩
theorem bad2_spec (o : HV) (A : List HP) (h : RdS A o.a o.vec.length 1 (o.vec.map I32)) (hn : o.vec.length ≤ 1000000) :
    CallsS Tryd.prog 53 ([] ++ [o.val] ++ []) A (fun r L' => r = .bool (badHit o.abs) ∧ L' = A) := by
  unfold badHit
  refine CallsS.of_body Tryd.func53 rfl rfl rfl ?_
  by_cases h0 : 1099511627776 < o.id
  · refine Q.r ?_; (repeat (intro b1; refine Q.r ?_))
    exact N.r1 (RV.tmp rfl RV.nil) (Ent.drop (Ent.refl _)) ⟨by simp [h0], rfl⟩
  · refine Q.r ?_; (repeat (intro b1; refine Q.r ?_))
    refine S.cr rfl (Right_spec o.a o.c o.vec _ h.sub (by omega)) ?_
    rintro _ _ ⟨rfl, rfl⟩
    refine Q.r ?_; (repeat (intro b1; refine Q.r ?_))
    exact N.r1 (RV.tmp rfl RV.nil) (Ent.drop (Ent.refl _)) ⟨by simp [h0], rfl⟩
section
variable {P : Program} {n : Nat} {ops : List Oper} {f : Env} {A : List HP} {d : Tmp} {ty : TypeId} {pos : String} {af : Array Edge}
theorem Y.max3 {x y z : Operand} {t t' t2 : TypeId} {k : IntKind} {a b c : Int} (hx : ev f x = some (.int k a)) (hy : ev f y = some (.int k b)) (hz : ev f z = some (.int k c)) :
    YieldS P n ops ⟨some d, .call ⟨.builtin .max, #[x, y, z], #[t, t', t2]⟩, ty, pos, af, none⟩ f A (.int k (Max.max (Max.max a b) c)) :=
  Y.of fun ac w s => by
    have h : ∀ a b : Int, Max.max a b = if a < b then b else a := fun a b => by simp only [Int.max_def]; split <;> split <;> omega
    simp [execOp, resolve, invoke, s.eval hx, s.eval hy, s.eval hz, builtin, Builtin.max_, Builtin.max2, h]
theorem Y.min4 {x y z u : Operand} {t t' t2 t3 : TypeId} {k : IntKind} {a b c e : Int} (hx : ev f x = some (.int k a)) (hy : ev f y = some (.int k b)) (hz : ev f z = some (.int k c)) (hu : ev f u = some (.int k e)) :
    YieldS P n ops ⟨some d, .call ⟨.builtin .min, #[x, y, z, u], #[t, t', t2, t3]⟩, ty, pos, af, none⟩ f A (.int k (Min.min (Min.min (Min.min a b) c) e)) :=
  Y.of fun ac w s => by
    have h : ∀ a b : Int, Min.min a b = if b < a then b else a := fun a b => by simp only [Int.min_def]; split <;> split <;> omega
    simp [execOp, resolve, invoke, s.eval hx, s.eval hy, s.eval hz, s.eval hu, builtin, Builtin.min_, Builtin.min2, h]
end
set_option maxHeartbeats 2000000 in
theorem bounded_spec (n : NV) (A : List HP) (h : RdN A n) (hk : OkN n) :
    CallsS Tryd.prog 34 [n.val] A (fun r L' => r = .bool (boundN n.abs) ∧ L' = A) := by
  have hE : boundN n.abs = (!(decide (1099511627776 < max (max n.stamp n.after) n.mark) || decide (1099511627776 < n.id) || decide (min (min (min n.k n.ef) n.who) n.code < 0) || decide (16 < n.k) || decide (256 < n.ef) || decide (16 ≤ n.who) || decide (13 < n.code)) &&
      !(decide (4 < n.parts.length) || decide (16 < n.ops.length) || decide (16 < n.hits.length) || !bareV n.vec) && partsV n.parts && !(n.ops.any fun o => badOp o.abs) && !(n.hits.any fun o => badHit o.abs)) := by
    unfold boundN; simp [List.any_map]; rfl
  rw [hE]
  clear hE
  refine CallsS.of_body Tryd.func34 rfl rfl rfl ?_
  by_cases a1 : 1099511627776 < max (max n.stamp n.after) n.mark
  · refine Q.r ?_; (repeat (intro b1; refine Q.r ?_)); refine S.y (Y.max3 rfl rfl rfl) ?_; (refine Q.r ?_; (repeat (intro b1; refine Q.r ?_)))
    exact N.r1 (RV.tmp rfl RV.nil) (Ent.drop (Ent.refl _)) ⟨by simp only [decide_eq_true a1, Bool.or_true, Bool.true_or, Bool.or_false, Bool.false_or, Bool.not_true, Bool.not_false, Bool.false_and, Bool.and_false, Bool.true_and, Bool.and_true], rfl⟩
  by_cases a2 : 1099511627776 < n.id
  · refine Q.r ?_; (repeat (intro b1; refine Q.r ?_)); refine S.y (Y.max3 rfl rfl rfl) ?_; (refine Q.r ?_; (repeat (intro b1; refine Q.r ?_)))
    exact N.r1 (RV.tmp rfl RV.nil) (Ent.drop (Ent.refl _)) ⟨by simp only [decide_eq_true a2, Bool.or_true, Bool.true_or, Bool.or_false, Bool.false_or, Bool.not_true, Bool.not_false, Bool.false_and, Bool.and_false, Bool.true_and, Bool.and_true], rfl⟩
  by_cases a3 : min (min (min n.k n.ef) n.who) n.code < 0
  · refine Q.r ?_; (repeat (intro b1; refine Q.r ?_)); refine S.y (Y.max3 rfl rfl rfl) ?_; (refine Q.r ?_; (repeat (intro b1; refine Q.r ?_))); refine S.y (Y.min4 rfl rfl rfl rfl) ?_; (refine Q.r ?_; (repeat (intro b1; refine Q.r ?_)))
    exact N.r1 (RV.tmp rfl RV.nil) (Ent.drop (Ent.refl _)) ⟨by simp only [decide_eq_true a3, Bool.or_true, Bool.true_or, Bool.or_false, Bool.false_or, Bool.not_true, Bool.not_false, Bool.false_and, Bool.and_false, Bool.true_and, Bool.and_true], rfl⟩
  by_cases a4 : 16 < n.k
  · refine Q.r ?_; (repeat (intro b1; refine Q.r ?_)); refine S.y (Y.max3 rfl rfl rfl) ?_; (refine Q.r ?_; (repeat (intro b1; refine Q.r ?_))); refine S.y (Y.min4 rfl rfl rfl rfl) ?_; (refine Q.r ?_; (repeat (intro b1; refine Q.r ?_)))
    exact N.r1 (RV.tmp rfl RV.nil) (Ent.drop (Ent.refl _)) ⟨by simp only [decide_eq_true a4, Bool.or_true, Bool.true_or, Bool.or_false, Bool.false_or, Bool.not_true, Bool.not_false, Bool.false_and, Bool.and_false, Bool.true_and, Bool.and_true], rfl⟩
  by_cases a5 : 256 < n.ef
  · refine Q.r ?_; (repeat (intro b1; refine Q.r ?_)); refine S.y (Y.max3 rfl rfl rfl) ?_; (refine Q.r ?_; (repeat (intro b1; refine Q.r ?_))); refine S.y (Y.min4 rfl rfl rfl rfl) ?_; (refine Q.r ?_; (repeat (intro b1; refine Q.r ?_)))
    exact N.r1 (RV.tmp rfl RV.nil) (Ent.drop (Ent.refl _)) ⟨by simp only [decide_eq_true a5, Bool.or_true, Bool.true_or, Bool.or_false, Bool.false_or, Bool.not_true, Bool.not_false, Bool.false_and, Bool.and_false, Bool.true_and, Bool.and_true], rfl⟩
  by_cases a6 : 16 ≤ n.who
  · refine Q.r ?_; (repeat (intro b1; refine Q.r ?_)); refine S.y (Y.max3 rfl rfl rfl) ?_; (refine Q.r ?_; (repeat (intro b1; refine Q.r ?_))); refine S.y (Y.min4 rfl rfl rfl rfl) ?_; (refine Q.r ?_; (repeat (intro b1; refine Q.r ?_)))
    exact N.r1 (RV.tmp rfl RV.nil) (Ent.drop (Ent.refl _)) ⟨by simp only [decide_eq_true a6, Bool.or_true, Bool.true_or, Bool.or_false, Bool.false_or, Bool.not_true, Bool.not_false, Bool.false_and, Bool.and_false, Bool.true_and, Bool.and_true], rfl⟩
  by_cases a7 : 13 < n.code
  · refine Q.r ?_; (repeat (intro b1; refine Q.r ?_)); refine S.y (Y.max3 rfl rfl rfl) ?_; (refine Q.r ?_; (repeat (intro b1; refine Q.r ?_))); refine S.y (Y.min4 rfl rfl rfl rfl) ?_; (refine Q.r ?_; (repeat (intro b1; refine Q.r ?_)))
    exact N.r1 (RV.tmp rfl RV.nil) (Ent.drop (Ent.refl _)) ⟨by simp only [decide_eq_true a7, Bool.or_true, Bool.true_or, Bool.or_false, Bool.false_or, Bool.not_true, Bool.not_false, Bool.false_and, Bool.and_false, Bool.true_and, Bool.and_true], rfl⟩
  by_cases q1 : 4 < n.parts.length
  · refine Q.r ?_; (repeat (intro b1; refine Q.r ?_)); refine S.y (Y.max3 rfl rfl rfl) ?_; (refine Q.r ?_; (repeat (intro b1; refine Q.r ?_))); refine S.y (Y.min4 rfl rfl rfl rfl) ?_; (refine Q.r ?_; (repeat (intro b1; refine Q.r ?_)))
    exact N.r1 (RV.tmp rfl RV.nil) (Ent.drop (Ent.refl _)) ⟨by simp only [decide_eq_true q1, Bool.or_true, Bool.true_or, Bool.or_false, Bool.false_or, Bool.not_true, Bool.not_false, Bool.false_and, Bool.and_false, Bool.true_and, Bool.and_true], rfl⟩
  by_cases q2 : 16 < n.ops.length
  · refine Q.r ?_; (repeat (intro b1; refine Q.r ?_)); refine S.y (Y.max3 rfl rfl rfl) ?_; (refine Q.r ?_; (repeat (intro b1; refine Q.r ?_))); refine S.y (Y.min4 rfl rfl rfl rfl) ?_; (refine Q.r ?_; (repeat (intro b1; refine Q.r ?_)))
    exact N.r1 (RV.tmp rfl RV.nil) (Ent.drop (Ent.refl _)) ⟨by simp only [decide_eq_true q2, Bool.or_true, Bool.true_or, Bool.or_false, Bool.false_or, Bool.not_true, Bool.not_false, Bool.false_and, Bool.and_false, Bool.true_and, Bool.and_true], rfl⟩
  by_cases q3 : 16 < n.hits.length
  · refine Q.r ?_; (repeat (intro b1; refine Q.r ?_)); refine S.y (Y.max3 rfl rfl rfl) ?_; (refine Q.r ?_; (repeat (intro b1; refine Q.r ?_))); refine S.y (Y.min4 rfl rfl rfl rfl) ?_; (refine Q.r ?_; (repeat (intro b1; refine Q.r ?_)))
    exact N.r1 (RV.tmp rfl RV.nil) (Ent.drop (Ent.refl _)) ⟨by simp only [decide_eq_true q3, Bool.or_true, Bool.true_or, Bool.or_false, Bool.false_or, Bool.not_true, Bool.not_false, Bool.false_and, Bool.and_false, Bool.true_and, Bool.and_true], rfl⟩
  refine Q.r ?_; (repeat (intro b1; refine Q.r ?_)); refine S.y (Y.max3 rfl rfl rfl) ?_; (refine Q.r ?_; (repeat (intro b1; refine Q.r ?_))); refine S.y (Y.min4 rfl rfl rfl rfl) ?_; (refine Q.r ?_; (repeat (intro b1; refine Q.r ?_)))
  refine S.cr rfl (bare_spec n.va n.vc n.vec _ h.v.sub hk.v) ?_
  rintro _ _ ⟨rfl, rfl⟩
  cases hbv : bareV n.vec with
  | false =>
    refine Q.r ?_; (repeat (intro b1; refine Q.r ?_))
    exact N.r1 (RV.tmp rfl RV.nil) (Ent.drop (Ent.refl _)) ⟨by simp only [Bool.or_true, Bool.true_or, Bool.or_false, Bool.false_or, Bool.not_true, Bool.not_false, Bool.false_and, Bool.and_false, Bool.true_and, Bool.and_true], rfl⟩
  | true =>
  simp only [decide_eq_false a1, decide_eq_false a2, decide_eq_false a3, decide_eq_false a4, decide_eq_false a5, decide_eq_false a6, decide_eq_false a7, decide_eq_false q1, decide_eq_false q2, decide_eq_false q3, Bool.or_true, Bool.true_or, Bool.or_false, Bool.false_or, Bool.not_true, Bool.not_false, Bool.false_and, Bool.and_false, Bool.true_and, Bool.and_true]
  clear a1 a2 a3 a4 a5 a6 a7
  refine Q.r ?_; (repeat (intro b1; refine Q.r ?_))
  refine swp_cutB (σ := Unit) (fun _ => [(1, .pointer (some ⟨b1, 0, none⟩))]) (fun _ => pt b1 (cl n.cells 39) :: A) (fun _ => partsV n.parts = true) ?_ ?_
  · refine swp_loop (σ := Nat) (fun k => [(1, .pointer (some ⟨b1, 0, none⟩)), (74, .slice n.pa n.parts.length n.pc), (75, .int .i64 n.parts.length), (76, .int .i64 k)])
      (fun _ => pt b1 (cl n.cells 39) :: A) (fun k => k ≤ n.parts.length ∧ (List.range k).all (okP n.parts) = true) (fun k => n.parts.length - k) 0 ⟨rfl, rfl, rfl, rfl, trivial⟩ (Ent.refl _) ⟨by omega, rfl⟩ ?_
    rintro k ⟨hk1, hk2⟩
    by_cases hlt : k < n.parts.length
    · obtain ⟨p, hp⟩ := mem_get hlt
      obtain ⟨bp, op, hpa, hr⟩ := RdS.elem (g := fun z => [I64 z]) (fun _ => rfl) (by rw [flat_I64]; exact h.p) hp rfl
      have hgp : n.parts.getD k 0 = p := by rw [List.getD_eq_getElem?_getD, hp]; rfl
      have hfail : okP n.parts k = false → partsV n.parts = false := fun hh => by
        unfold partsV
        rw [List.all_eq_false]
        exact ⟨k, List.mem_range.2 hlt, by rw [hh]; decide⟩
      rw [hpa]
      by_cases e1 : p < 0
      · repeat (first | refine S.y (Y.ldRj rfl (by first | assumption | exact RdC.sub (by assumption)) rfl) ?_ | (refine GQ.y ?_; refine Q.y ?_) | refine Q.go ?_ | (refine GQ.g ?_; refine Q.gq ?_) | (refine GQ.s ?_; refine Q.st ?_) | (refine GQ.g ?_; refine Q.gd ?_) | refine Q.ct rfl ?_ | refine Q.cf rfl ?_ | (refine GQ.a ?_; refine Q.al (fun b1 => ?_)))
        exact N.r1 (RV.tmp rfl RV.nil) (Ent.drop (Ent.refl _)) ⟨by rw [hfail (by unfold okP; rw [hgp, decide_eq_false (by omega : ¬ 0 ≤ p)]; rfl)]; rfl, rfl⟩
      by_cases e2 : 16 ≤ p
      · repeat (first | refine S.y (Y.ldRj rfl (by first | assumption | exact RdC.sub (by assumption)) rfl) ?_ | (refine GQ.y ?_; refine Q.y ?_) | refine Q.go ?_ | (refine GQ.g ?_; refine Q.gq ?_) | (refine GQ.s ?_; refine Q.st ?_) | (refine GQ.g ?_; refine Q.gd ?_) | refine Q.ct rfl ?_ | refine Q.cf rfl ?_ | (refine GQ.a ?_; refine Q.al (fun b1 => ?_)))
        exact N.r1 (RV.tmp rfl RV.nil) (Ent.drop (Ent.refl _)) ⟨by rw [hfail (by unfold okP; rw [hgp, decide_eq_false (by omega : ¬ p < 16), Bool.and_false]; rfl)]; rfl, rfl⟩
      by_cases e3 : k = 0
      · subst e3
        repeat (first | refine S.y (Y.ldRj rfl (by first | assumption | exact RdC.sub (by assumption)) rfl) ?_ | (refine GQ.y ?_; refine Q.y ?_) | refine Q.go ?_ | (refine GQ.g ?_; refine Q.gq ?_) | (refine GQ.s ?_; refine Q.st ?_) | (refine GQ.g ?_; refine Q.gd ?_) | refine Q.ct rfl ?_ | refine Q.cf rfl ?_ | (refine GQ.a ?_; refine Q.al (fun b1 => ?_)))
        exact ⟨1, ⟨by rw [← hpa]; rfl, by rw [← hpa]; rfl, rfl, rfl, trivial⟩, Ent.refl _, ⟨by omega, by rw [show List.range (0 + 1) = [0] from rfl, List.all_cons, List.all_nil]; unfold okP; rw [hgp, decide_eq_true (by omega : (0 : Int) ≤ p), decide_eq_true (by omega : p < 16)]; rfl⟩, by omega⟩
      · obtain ⟨q, hq⟩ := mem_get (l := n.parts) (show k - 1 < n.parts.length by omega)
        obtain ⟨bq, oq, hqa, hr2⟩ := RdS.elem (g := fun z => [I64 z]) (fun _ => rfl) (by rw [flat_I64]; exact h.p) hq rfl
        have hgq : n.parts.getD (k - 1) 0 = q := by rw [List.getD_eq_getElem?_getD, hq]; rfl
        by_cases e4 : p ≤ q
        · repeat (first | refine S.y (Y.ldRj rfl (by first | assumption | exact RdC.sub (by assumption)) rfl) ?_ | refine Q.yn ?_ | refine S.stI rfl rfl (by first | omega | (rw [Array.size_setIfInBounds]; omega)) ?_ | (refine GQ.y ?_; refine Q.y ?_) | refine Q.go ?_ | (refine GQ.g ?_; refine Q.gq ?_) | (refine GQ.s ?_; refine Q.st ?_) | (refine GQ.g ?_; refine Q.gd ?_) | refine Q.ct rfl ?_ | refine Q.cf rfl ?_ | (refine GQ.a ?_; refine Q.al (fun b1 => ?_)))
          rw [hqa]
          repeat (first | refine S.y (Y.ldRj rfl (by first | assumption | exact RdC.sub (by assumption)) rfl) ?_ | refine Q.yn ?_ | refine S.stI rfl rfl (by first | omega | (rw [Array.size_setIfInBounds]; omega)) ?_ | (refine GQ.y ?_; refine Q.y ?_) | refine Q.go ?_ | (refine GQ.g ?_; refine Q.gq ?_) | (refine GQ.s ?_; refine Q.st ?_) | (refine GQ.g ?_; refine Q.gd ?_) | refine Q.ct rfl ?_ | refine Q.cf rfl ?_ | (refine GQ.a ?_; refine Q.al (fun b1 => ?_)))
          exact N.r1 (RV.tmp rfl RV.nil) (Ent.drop (Ent.refl _)) ⟨by rw [hfail (by unfold okP; rw [hgp, hgq, decide_eq_false e3, decide_eq_false (by omega : ¬ q < p), Bool.or_false, Bool.and_false])]; rfl, rfl⟩
        · repeat (first | refine S.y (Y.ldRj rfl (by first | assumption | exact RdC.sub (by assumption)) rfl) ?_ | refine Q.yn ?_ | refine S.stI rfl rfl (by first | omega | (rw [Array.size_setIfInBounds]; omega)) ?_ | (refine GQ.y ?_; refine Q.y ?_) | refine Q.go ?_ | (refine GQ.g ?_; refine Q.gq ?_) | (refine GQ.s ?_; refine Q.st ?_) | (refine GQ.g ?_; refine Q.gd ?_) | refine Q.ct rfl ?_ | refine Q.cf rfl ?_ | (refine GQ.a ?_; refine Q.al (fun b1 => ?_)))
          rw [hqa]
          repeat (first | refine S.y (Y.ldRj rfl (by first | assumption | exact RdC.sub (by assumption)) rfl) ?_ | refine Q.yn ?_ | refine S.stI rfl rfl (by first | omega | (rw [Array.size_setIfInBounds]; omega)) ?_ | (refine GQ.y ?_; refine Q.y ?_) | refine Q.go ?_ | (refine GQ.g ?_; refine Q.gq ?_) | (refine GQ.s ?_; refine Q.st ?_) | (refine GQ.g ?_; refine Q.gd ?_) | refine Q.ct rfl ?_ | refine Q.cf rfl ?_ | (refine GQ.a ?_; refine Q.al (fun b1 => ?_)))
          refine ⟨k + 1, ⟨rfl, by first | rfl | (rw [← hqa]; rfl) | (rw [← hpa]; rfl) | (rw [hqa]; rfl) | (rw [hpa]; rfl), rfl, rfl, trivial⟩, Ent.refl _, ⟨by omega, ?_⟩, by omega⟩
          rw [List.range_succ, List.all_append, hk2, List.all_cons, List.all_nil]
          unfold okP
          rw [hgp, hgq, decide_eq_true (by omega : (0 : Int) ≤ p), decide_eq_true (by omega : p < 16), decide_eq_true (by omega : q < p), Bool.or_true]; rfl
    · have : k = n.parts.length := by omega
      subst this
      refine Q.r ?_; (repeat (intro b1; refine Q.r ?_))
      exact ⟨(), ⟨rfl, trivial⟩, Ent.refl _, hk2⟩
  · rintro _ hp
    refine Q.r ?_; (repeat (intro b1; refine Q.r ?_))
    refine S.cr rfl (HasO_spec 51 [] [] (fun o => badOp o.abs) n.oa n.oc n.ops _ h.o.1.sub (by have := hk.o; omega) (fun o ho => bad1_spec o _ ((h.o.2 o ho).sub) (hk.ov o ho))) ?_
    rintro _ _ ⟨rfl, rfl⟩
    cases hop : n.ops.any fun o => badOp o.abs with
    | true =>
      refine Q.r ?_; (repeat (intro b1; refine Q.r ?_))
      exact N.r1 (RV.tmp rfl RV.nil) (Ent.drop (Ent.refl _)) ⟨by simp only [Bool.or_true, Bool.true_or, Bool.or_false, Bool.false_or, Bool.not_true, Bool.not_false, Bool.false_and, Bool.and_false, Bool.true_and, Bool.and_true], rfl⟩
    | false =>
      refine Q.r ?_; (repeat (intro b1; refine Q.r ?_))
      refine S.cr rfl (HasH_spec 53 [] [] (fun o => badHit o.abs) n.ha n.hc n.hits _ h.h.sub (by have := hk.h; omega) (fun o ho => bad2_spec o _ ((h.hv o ho).sub) (hk.hv o ho))) ?_
      rintro _ _ ⟨rfl, rfl⟩
      refine Q.r ?_; (repeat (intro b1; refine Q.r ?_))
      exact N.r1 (RV.tmp rfl RV.nil) (Ent.drop (Ent.refl _)) ⟨by simp only [hp, Bool.or_true, Bool.true_or, Bool.or_false, Bool.false_or, Bool.not_true, Bool.not_false, Bool.false_and, Bool.and_false, Bool.true_and, Bool.and_true], rfl⟩
end Go.Proofs.YtiampehfpgcogaaDoor
namespace Go.Proofs.YtiampehfpgcogaaDoor
open Go Go.SX
attribute [local irreducible] swp opsS thenS blockS retS CallsS St Ent YieldS anyS drawS
abbrev ST := List UInt8 × Nat
abbrev ST.cells (p : ST) : List Value := [str p.1, .int .i64 (p.2 : Int)]
def sortsT : List ST := [([], 0), ([65, 115, 107], 4098), ([82, 101, 112, 108, 121], 518), ([80, 114, 101, 112, 97, 114, 101], 6153), ([86, 111, 116, 101], 513), ([68, 101, 99, 105, 100, 101], 517), ([65, 99, 107], 1), ([80, 114, 111, 98, 101], 1), ([81, 117, 101, 114, 121], 8672), ([76, 111, 111, 107], 8692), ([83, 101, 101, 110], 16928), ([82, 101, 115, 117, 108, 116], 16932), ([80, 114, 101, 112, 97, 114, 101, 100], 6153), ([67, 111, 109, 109, 105, 116, 116, 101, 100], 5), ([65, 98, 111, 114, 116, 101, 100], 1), ([83, 119, 101, 112, 116], 16), ([69, 112, 111, 99, 104], 16), ([67, 111, 109, 109, 105, 116], 2055), ([69, 110, 100], 1), ([66, 101, 103, 105, 110], 7179), ([89, 101, 115], 1025), ([65, 99, 107, 101, 100], 1025), ([71, 111, 110, 101], 1)]
def sortsC : List Value := sortsT.flatMap ST.cells
def sortT (k : Nat) : ST := (sortsT[k]?).getD ([], 0)
theorem sort_fld (k : Nat) : (sortT k).2 = fldN k := by
  by_cases h : k < 23
  · exact (by decide : ∀ k, k < 23 → (sortT k).2 = fldN k) k h
  · have h1 : sortT k = ([], 0) := by
      unfold sortT
      rw [List.getElem?_eq_none (by show 23 ≤ k; omega)]; rfl
    rw [h1]
    unfold fldN
    split <;> first | omega | rfl
theorem sort_name (k : Nat) : (decide ((sortT k).1 = [])) = !decide (1 ≤ k ∧ k ≤ 22) := by
  by_cases h : k < 23
  · exact (by decide : ∀ k, k < 23 → (decide ((sortT k).1 = [])) = !decide (1 ≤ k ∧ k ≤ 22)) k h
  · have h1 : sortT k = ([], 0) := by
      unfold sortT
      rw [List.getElem?_eq_none (by show 23 ≤ k; omega)]; rfl
    rw [h1, decide_eq_false (by omega : ¬ (1 ≤ k ∧ k ≤ 22))]; rfl
theorem sorted_spec (k : Nat) (A : List HP) (hT : RdC A 0 0 sortsC) (hk : k ≤ 255) :
    CallsS Tryd.prog 32 [.int .u8 (k : Int)] A (fun r L' => r = .agg (ST.cells (sortT k)).toArray ∧ L' = A) := by
  refine CallsS.of_body Tryd.func32 rfl rfl rfl ?_
  by_cases h : 23 ≤ k
  · have h1 : sortT k = ([], 0) := by
      unfold sortT
      rw [List.getElem?_eq_none (by show 23 ≤ k; omega)]; rfl
    rw [h1]
    refine Q.r ?_; (repeat (intro b1; refine Q.r ?_))
    refine S.y (Y.cvi rfl) ?_
    rw [wrap_i64 (by omega) (by omega)]
    refine Q.r ?_; (repeat (intro b1; refine Q.r ?_))
    exact N.r1 (by apply RV.cellN; rfl; exact RdC.row; rfl; exact RV.nil) (Ent.drop (Ent.refl _)) ⟨rfl, rfl⟩
  · have hs : sortsT[k]? = some (sortT k) := by
      unfold sortT
      rw [List.getElem?_eq_getElem (show k < sortsT.length by show k < 23; omega)]; rfl
    have hr : RdC A 0 (0 + k * 2) (ST.cells (sortT k)) := hT.part fun j v e => flat_get (g := ST.cells) (fun _ => rfl) sortsT k j _ v hs e
    refine Q.r ?_; (repeat (intro b1; refine Q.r ?_))
    refine S.y (Y.cvi rfl) ?_
    rw [wrap_i64 (by omega) (by omega)]
    refine Q.rn ?_; (repeat (intro b1; refine Q.rn ?_))
    exact N.r1 (by apply RV.cellN; rfl; exact RdC.row; rfl; exact RV.nil) (Ent.drop (Ent.refl _)) ⟨rfl, rfl⟩
theorem testBit_bitsN : ∀ (l : List Bool) (i : Nat), (bitsN l).testBit i = l.getD i false
  | [], i => by simp [bitsN]
  | b :: l, 0 => by
    unfold bitsN
    rw [Nat.testBit_zero]
    cases b <;> simp [Nat.add_mod]
  | b :: l, i + 1 => by
    unfold bitsN
    rw [Nat.testBit_succ, List.getD_cons_succ, ← testBit_bitsN l i]
    congr 1
    cases b <;> simp <;> omega
theorem i64_and (a f : Nat) (ha : a < 2 ^ 15) : IntKind.i64.wrap (((BitVec.ofInt IntKind.i64.bits (a : Int)) &&& ~~~(BitVec.ofInt IntKind.i64.bits (f : Int))).toNat : Int) = (((BitVec.ofNat 64 a &&& ~~~ BitVec.ofNat 64 f).toNat : Nat) : Int) := by
  have e : ∀ x : Nat, BitVec.ofInt IntKind.i64.bits (x : Int) = BitVec.ofNat 64 x := fun x => by
    show BitVec.ofInt 64 (x : Int) = _
    rw [BitVec.ofInt_natCast]
  rw [e, e]
  have h : (BitVec.ofNat 64 a &&& ~~~ BitVec.ofNat 64 f).toNat ≤ a := by
    rw [BitVec.toNat_and]
    refine Nat.le_trans Nat.and_le_left ?_
    simp; omega
  show IntKind.i64.wrap (((BitVec.ofNat 64 a &&& ~~~ BitVec.ofNat 64 f).toNat : Nat) : Int) = _
  exact wrap_i64 (by omega) (by omega)
theorem held_fits (n : NA) (f : Nat) : decide ((((BitVec.ofNat 64 (bitsN n.bits) &&& ~~~ BitVec.ofNat 64 f).toNat : Nat) : Int) = 0) = n.bits.zipIdx.all fun b => !b.1 || f.testBit b.2 := by
  have hl : n.bits.length = 15 := rfl
  rw [Bool.eq_iff_iff, decide_eq_true_iff, List.all_eq_true]
  constructor
  · intro h b hb
    obtain ⟨x, i⟩ := b
    have hi := List.mem_zipIdx_iff_getElem?.1 hb
    dsimp only at hi ⊢
    cases x with
    | false => rfl
    | true =>
      have hlt : i < 15 := by rw [← hl]; exact (List.getElem?_eq_some_iff.1 hi).1
      have h0 : (BitVec.ofNat 64 (bitsN n.bits) &&& ~~~ BitVec.ofNat 64 f) = 0#64 := BitVec.eq_of_toNat_eq (by simpa using h)
      have h1 := congrArg (fun v : BitVec 64 => v.getLsbD i) h0
      simp only [BitVec.getLsbD_and, BitVec.getLsbD_not, BitVec.getLsbD_ofNat] at h1
      rw [testBit_bitsN, List.getD_eq_getElem?_getD, hi] at h1
      simp [show i < 64 by omega] at h1
      simpa using h1
  · intro h
    have h0 : (BitVec.ofNat 64 (bitsN n.bits) &&& ~~~ BitVec.ofNat 64 f) = 0#64 := by
      apply BitVec.eq_of_getLsbD_eq
      intro i hi
      simp only [BitVec.getLsbD_and, BitVec.getLsbD_not, BitVec.getLsbD_ofNat, BitVec.getLsbD_zero]
      rw [testBit_bitsN, List.getD_eq_getElem?_getD]
      cases hb : n.bits[i]? with
      | none => simp
      | some b =>
        have := h (b, i) (List.mem_zipIdx_iff_getElem?.2 hb)
        dsimp only at this
        cases b with
        | false => simp
        | true => simp at this; simp [this, hi]
    rw [h0]; rfl
set_option maxHeartbeats 1000000 in
theorem NRight_spec (n : NV) (A : List HP) (h : RdN A n) (hk : OkN n) (hT : RdC A 0 0 sortsC) (h0 : 0 ≤ n.kind ∧ n.kind ≤ 255) :
    CallsS Tryd.prog 18 [n.val] A (fun r L' => r = .bool (rightN n.abs) ∧ L' = A) := by
  obtain ⟨k, hkk⟩ : ∃ k : Nat, n.kind = (k : Int) := ⟨n.kind.toNat, by omega⟩
  have hbd : bitsN n.bits < 2 ^ 15 := bitsN_lt n.bits
  have hE : rightN n.abs = ((!decide ((sortT k).1 = [])) && decide ((((BitVec.ofNat 64 (bitsN n.bits) &&& ~~~ BitVec.ofNat 64 (sortT k).2).toNat : Nat) : Int) = 0) && boundN n.abs) := by
    have := held_fits n.abs (sortT k).2
    rw [NV.bits_abs] at this
    unfold rightN
    rw [NV.bits_abs, this, sort_name, sort_fld, Bool.not_not]
    show (decide (1 ≤ n.kind ∧ n.kind ≤ 22) && (n.bits.zipIdx.all fun b => !b.1 || (fldN n.kind.toNat).testBit b.2) && boundN n.abs) = _
    rw [hkk, Int.toNat_natCast, show decide (1 ≤ (k : Int) ∧ (k : Int) ≤ 22) = decide (1 ≤ k ∧ k ≤ 22) from by congr 1; simp; omega]
  rw [hE]
  clear hE
  refine CallsS.of_body Tryd.func18 rfl rfl rfl ?_
  refine Q.r ?_; (repeat (intro b1; refine Q.r ?_))
  refine S.cr (args := [.int .u8 (k : Int)]) (by rw [← hkk]; rfl) (sorted_spec k _ hT.sub (by omega)) ?_
  rintro _ _ ⟨rfl, rfl⟩
  by_cases hn : (sortT k).1 = []
  · rw [decide_eq_true hn]
    refine Q.r ?_; (repeat (intro b1; refine Q.r ?_))
    refine Q.dgo [true, true] [5, 13] [] [0, 1, 2, 3, 4, 6, 7, 5, 8, 9, 10, 11, 12, 13, 14, 15] ?_
    refine Q.rd ?_; (repeat (intro b1; refine Q.rd ?_))
    refine Q.r ?_; (repeat (intro b1; refine Q.r ?_))
    exact N.r1 (RV.tmp rfl RV.nil) (Ent.drop (Ent.drop (Ent.refl _))) ⟨by simp only [Bool.not_true, Bool.false_and], rfl⟩
  rw [decide_eq_false hn]
  refine Q.r ?_; (repeat (intro b1; refine Q.r ?_))
  refine Q.dgo [true, true] [5, 13] [] [0, 1, 2, 3, 4, 6, 7, 5, 8, 9, 10, 11, 12, 13, 14, 15] ?_
  refine Q.rd ?_; (repeat (intro b1; refine Q.rd ?_))
  refine D.e rfl rfl rfl ?_
  refine S.guard rfl ?_
  refine S.cr rfl (held_spec n _) ?_
  rintro _ _ ⟨rfl, rfl⟩
  refine Q.r ?_; (repeat (intro b1; refine Q.r ?_))
  refine D.y rfl rfl rfl (by kernel_rfl) (Y.guard rfl (Y.andNot rfl rfl)) ?_
  rw [i64_and _ _ hbd]
  generalize (BitVec.ofNat 64 (bitsN n.bits) &&& ~~~ BitVec.ofNat 64 (sortT k).2).toNat = z
  by_cases hz : (z : Int) = 0
  · rw [decide_eq_true hz]
    refine Q.rd ?_; (repeat (intro b1; refine Q.rd ?_))
    refine D.e rfl rfl rfl ?_
    refine S.guard rfl ?_
    refine S.cr rfl (bounded_spec n _ h hk) ?_
    rintro _ _ ⟨rfl, rfl⟩
    refine Q.r ?_; (repeat (intro b1; refine Q.r ?_))
    refine Q.rd ?_; (repeat (intro b1; refine Q.rd ?_))
    refine Q.r ?_; (repeat (intro b1; refine Q.r ?_))
    exact N.r1 (RV.tmp rfl RV.nil) (Ent.drop (Ent.drop (Ent.refl _))) ⟨by simp only [Bool.not_false, Bool.true_and], rfl⟩
  · rw [decide_eq_false hz]
    refine Q.rd ?_; (repeat (intro b1; refine Q.rd ?_))
    refine Q.r ?_; (repeat (intro b1; refine Q.r ?_))
    exact N.r1 (RV.tmp rfl RV.nil) (Ent.drop (Ent.drop (Ent.refl _))) ⟨by simp only [Bool.not_false, Bool.and_false, Bool.false_and], rfl⟩
end Go.Proofs.YtiampehfpgcogaaDoor
namespace Go.Proofs.YtiampehfpgcogaaDoor
open Go Go.SX
structure JS where
  v : VS
  parts : List (Int × List Int)
  done : List (Int × Int)
structure PA where
  rec_ : List NA
  mail : List (Int × NA)
  els : List (Int × NA)
def PA.none : PA := ⟨[], [], []⟩
abbrev voteN (txn code : Int) : Int × NA := (0, { NA.zero with kind := 4, txn := txn, code := code })
def takenV (st : VS) (ops : VL) : Bool := st.its.any fun i => i.2.2.any fun o => holdsV ops o.1
def aboveV (st : VS) (s : Int) (ops : VL) : Bool := !st.ch.any fun c => decide (s ≤ lastS c.2) && holdsV ops c.1
def prepV (j : JS) (n : NA) : PA :=
  if (lkL j.done n.txn).isSome ∨ checkV j.v.dim n.ops ≠ 0 then PA.none
  else if (lkL j.v.its n.txn).isSome then ⟨[], [voteN n.txn 0], []⟩
  else if takenV j.v n.ops then ⟨[], [voteN n.txn 11], []⟩
  else ⟨[{ n with kind := 12 }], [voteN n.txn 0], [voteN n.txn 8]⟩
abbrev ackN (txn : Int) : Int × NA := (0, { NA.zero with kind := 6, txn := txn })
def deciV (j : JS) (from_ : Int) (n : NA) : PA :=
  if n.code ≠ 0 then if (lkL j.v.its n.txn).isSome ∧ from_ = 0 then ⟨[{ NA.zero with kind := 14, txn := n.txn }], [], []⟩ else PA.none
  else match lkL j.done n.txn with
    | some s => if s = n.stamp then ⟨[], [ackN n.txn], []⟩ else PA.none
    | none => match lkL j.v.its n.txn with
      | some i => if max i.1 j.v.mark < n.stamp ∧ aboveV j.v n.stamp i.2 = true then ⟨[{ NA.zero with kind := 13, txn := n.txn, stamp := n.stamp }], [ackN n.txn], []⟩ else PA.none
      | none => PA.none
def planV (j : JS) (from_ : Int) (n : NA) : PA :=
  if rightN n = false then PA.none
  else if n.kind = 3 then if from_ = 0 then prepV j n else PA.none
  else if n.kind = 5 then deciV j from_ n
  else if n.kind = 7 then match lkL j.done n.txn with
    | some s => ⟨[], [(from_, { NA.zero with kind := 5, txn := n.txn, stamp := s })], []⟩
    | none => PA.none
  else PA.none
def appE (j : JS) (n : NA) : Int :=
  if rightN n = false then 4
  else if n.kind = 12 then lockE j.v n.txn n.after n.ops
  else if n.kind = 13 then applyE j.v n.txn n.stamp
  else if n.kind = 14 then if (lkL j.v.its n.txn).isSome then 0 else 6
  else if n.kind = 15 then 0
  else 4
def appS (j : JS) (n : NA) : JS :=
  if appE j n ≠ 0 then j
  else if n.kind = 12 then ⟨lockS j.v n.txn n.after n.ops, putL j.parts n.txn n.parts, j.done⟩
  else if n.kind = 13 then ⟨applyS j.v n.txn n.stamp, delL j.parts n.txn, putL j.done n.txn n.stamp⟩
  else if n.kind = 14 then ⟨{ j.v with its := delL j.v.its n.txn }, delL j.parts n.txn, j.done⟩
  else if n.kind = 15 then ⟨sweepS j.v n.mark, j.parts, j.done⟩
  else j
structure JOK (j : JS) (n : Nat) : Prop where
  w : WFK j.v n
  kp : keysOK j.parts
  kd : keysOK j.done
  o : ∀ t s, lkL j.done t = some s → lkL j.v.its t = none
  p : ∀ t s, lkL j.done t = some s → 0 < s
  m : 0 ≤ j.v.mark
  ne : ∀ c ∈ j.v.ch, 0 < c.2.length
theorem right_abort {t : Int} (h : 0 ≤ t) : rightN { NA.zero with kind := 14, txn := t } = true := by
  unfold rightN boundN NA.bits NA.zero bareV
  by_cases h0 : 0 < t
  · simp [h0, List.zipIdx, fldN, partsV]
  · simp [h0, List.zipIdx, fldN, partsV]
theorem right_commit {t s : Int} (h2 : s ≤ 1099511627776) : rightN { NA.zero with kind := 13, txn := t, stamp := s } = true := by
  unfold rightN boundN NA.bits NA.zero bareV
  by_cases h0 : 0 < t <;> by_cases h1 : 0 < s <;> simp [h0, h1, List.zipIdx, fldN, partsV] <;> first | omega | (refine ⟨?_, ?_⟩ <;> first | decide | omega)
theorem right_prep {n : NA} (h : rightN n = true) (hk : n.kind = 3) : rightN { n with kind := 12 } = true := by
  unfold rightN at h ⊢
  rw [hk] at h
  exact h
theorem right_bound {n : NA} (h : rightN n = true) : n.stamp ≤ 1099511627776 ∧ n.after ≤ 1099511627776 ∧ n.mark ≤ 1099511627776 := by
  unfold rightN boundN at h
  simp only [Bool.and_eq_true, Bool.not_eq_true', Bool.or_eq_false_iff, decide_eq_false_iff_not] at h
  omega
end Go.Proofs.YtiampehfpgcogaaDoor
namespace Go.Proofs.YtiampehfpgcogaaDoor
open Go Go.SX
theorem isSome_ne {α : Type} {o : Option α} (h : ¬ o.isSome = true) : o = none := by cases o with
  | none => rfl
  | some a => exact absurd rfl h
theorem lkL_snoc {κ α : Type} [DecidableEq κ] {m : List (κ × α)} {x y : κ} {a : α} (h : lkL m x = none) : lkL (m ++ [(x, a)]) y = if y = x then some a else lkL m y := by
  have hm := lk_none' h
  by_cases hy : y = x
  · subst hy
    rw [if_pos rfl]
    exact lkL_mid (q := []) hm
  · rw [if_neg hy]
    unfold lkL
    rw [List.find?_append]
    have : (List.find? (fun p : κ × α => decide (p.1 = y)) [(x, a)]) = none := by simp [Ne.symm hy]
    rw [this, Option.or_none]
theorem lkL_delE {κ α : Type} [DecidableEq κ] (m : List (κ × α)) (x : κ) : lkL (delL m x) x = none := lkL_none fun u hu => by
  have := (List.mem_filter.1 hu).2
  simpa using this
theorem lkL_delI {κ α : Type} [DecidableEq κ] {m : List (κ × α)} (x y : κ) : lkL (delL m x) y = if y = x then none else lkL m y := by
  by_cases hy : y = x
  · subst hy; rw [if_pos rfl, lkL_delE]
  · rw [if_neg hy, lkL_del x y hy]
theorem taken_lock {st : VS} {ops : VL} (h : takenV st ops = false) : (ops.any fun o => st.its.any fun i => holdsV i.2.2 o.1) = false := by
  rw [List.any_eq_false]
  intro o ho hh
  obtain ⟨i, hi, hx⟩ := List.any_eq_true.1 hh
  unfold holdsV at hx
  obtain ⟨u, hu, hux⟩ := List.any_eq_true.1 hx
  have hux := of_decide_eq_true hux
  have : takenV st ops = true := by
    unfold takenV
    refine List.any_eq_true.2 ⟨i, hi, List.any_eq_true.2 ⟨u, hu, ?_⟩⟩
    unfold holdsV
    exact List.any_eq_true.2 ⟨o, ho, decide_eq_true hux.symm⟩
  rw [h] at this; cases this
theorem prep_lock {j : JS} {n : NA} (ha : n.after ≤ 1099511627776) (hc : checkV j.v.dim n.ops = 0) (hl : lkL j.v.its n.txn = none) (ht : takenV j.v n.ops = false) : lockE j.v n.txn n.after n.ops = 0 := by
  unfold lockE
  rw [if_neg (by omega), if_neg (by simp [hc]), hl, if_neg (by simp), taken_lock ht]
  rfl
theorem above_apply {j : JS} {t s : Int} {i : Int × VL} (hl : lkL j.v.its t = some i) (h1 : max i.1 j.v.mark < s) (hm : 0 ≤ j.v.mark) (h2 : s ≤ 1099511627776) (ha : aboveV j.v s i.2 = true) : applyE j.v t s = 0 := by
  unfold applyE
  rw [hl]
  dsimp only
  rw [if_neg (by omega)]
  have hno : (i.2.any fun o => decide (s ≤ lastS (chV j.v.ch o.1))) = false := by
    rw [List.any_eq_false]
    intro o ho hh
    have hh := of_decide_eq_true hh
    unfold chV at hh
    cases hz : lkL j.v.ch o.1 with
    | none =>
      rw [hz] at hh
      have : lastS ([] : VL) = 0 := rfl
      rw [Option.getD_none, this] at hh
      omega
    | some w =>
      rw [hz, Option.getD_some] at hh
      have hmem := lk_memL hz
      unfold aboveV at ha
      rw [Bool.not_eq_true', List.any_eq_false] at ha
      refine ha _ hmem ?_
      rw [Bool.and_eq_true]
      refine ⟨decide_eq_true hh, ?_⟩
      unfold holdsV
      exact List.any_eq_true.2 ⟨o, ho, decide_eq_true rfl⟩
  rw [hno, if_neg (by simp), if_neg (by omega)]
theorem applyC_ne {s : Int} {ops : VL} {ch : List (Int × VL)} (hk : keysOK ch) (hn : (ops.map (·.1)).Nodup) (h : ∀ c ∈ ch, 0 < c.2.length) : ∀ c ∈ applyC s ch ops, 0 < c.2.length := fun c hc => by
  rcases applyC_mem hk hn hc with hc | ⟨o, ho, rfl⟩
  · exact h c hc
  · simp
structure Once (j : JS) (k : Nat) (n r : NA) : Prop where
  tx : r.txn = n.txn
  nd : lkL j.done n.txn = none
  e : appE j r = 0
  ok : JOK (appS j r) (k + 1)
  rt : rightN r = true
theorem once_prep {j : JS} {k : Nat} (hj : JOK j k) {n : NA} (hr : rightN n = true) (hk : n.kind = 3) (hd : lkL j.done n.txn = none) (hc : checkV j.v.dim n.ops = 0) (hl : lkL j.v.its n.txn = none) (ht : takenV j.v n.ops = false) :
    Once j k n { n with kind := 12 } ∧ (appS j { n with kind := 12 }).done = j.done ∧ ∀ t, (lkL (appS j { n with kind := 12 }).v.its t).isSome = true → t = n.txn ∨ (lkL j.v.its t).isSome = true := by
  have hb := right_bound hr
  have hlk := prep_lock (j := j) hb.2.1 hc hl ht
  have hr2 := right_prep hr hk
  have hE : appE j { n with kind := 12 } = 0 := by
    unfold appE
    rw [if_neg (by rw [hr2]; decide), if_pos rfl]
    exact hlk
  have hS : appS j { n with kind := 12 } = ⟨lockS j.v n.txn n.after n.ops, putL j.parts n.txn n.parts, j.done⟩ := by
    unfold appS
    rw [if_neg (by rw [hE]; decide), if_pos rfl]
  have hSv : lockS j.v n.txn n.after n.ops = { j.v with its := j.v.its ++ [(n.txn, n.after, n.ops)] } := by unfold lockS; rw [if_pos hlk]
  refine ⟨⟨rfl, hd, hE, ?_, hr2⟩, by rw [hS], fun t h => ?_⟩
  · rw [hS]
    refine ⟨hj.w.lock _ _ _, putL_ok hj.kp _ _, hj.kd, fun t s h => ?_, hj.p, ?_, ?_⟩
    · dsimp only at h ⊢
      rw [hSv]
      dsimp only
      rw [lkL_snoc hl]
      by_cases ht : t = n.txn
      · subst ht; rw [hd] at h; cases h
      · rw [if_neg ht]; exact hj.o t s h
    · rw [hSv]; exact hj.m
    · rw [hSv]; exact hj.ne
  · rw [hS] at h
    dsimp only at h
    rw [hSv] at h
    dsimp only at h
    rw [lkL_snoc hl] at h
    by_cases ht : t = n.txn
    · exact .inl ht
    · rw [if_neg ht] at h; exact .inr h
abbrev comN (t s : Int) : NA := { NA.zero with kind := 13, txn := t, stamp := s }
abbrev aboN (t : Int) : NA := { NA.zero with kind := 14, txn := t }
theorem once_commit {j : JS} {k : Nat} (hj : JOK j k) {n : NA} (hr : rightN n = true) (hd : lkL j.done n.txn = none) {i : Int × VL} (hl : lkL j.v.its n.txn = some i) (h1 : max i.1 j.v.mark < n.stamp) (ha : aboveV j.v n.stamp i.2 = true) :
    Once j k n (comN n.txn n.stamp) ∧ 0 < n.stamp ∧ (appS j (comN n.txn n.stamp)).done = putL j.done n.txn n.stamp ∧ ∀ t, (lkL (appS j (comN n.txn n.stamp)).v.its t).isSome = true → (lkL j.v.its t).isSome = true := by
  have hb := right_bound hr
  have hm := hj.m
  have hE0 := above_apply hl h1 hj.m hb.1 ha
  have hr2 : rightN (comN n.txn n.stamp) = true := right_commit hb.1
  have hE : appE j (comN n.txn n.stamp) = 0 := by
    unfold appE
    rw [if_neg (by rw [hr2]; decide), if_neg (show ¬ (13 : Int) = 12 by decide), if_pos rfl]
    exact hE0
  have hS : appS j (comN n.txn n.stamp) = ⟨applyS j.v n.txn n.stamp, delL j.parts n.txn, putL j.done n.txn n.stamp⟩ := by
    unfold appS
    rw [if_neg (by rw [hE]; decide), if_neg (show ¬ (13 : Int) = 12 by decide), if_pos rfl]
  have hSv : applyS j.v n.txn n.stamp = { j.v with ch := applyC n.stamp j.v.ch i.2, its := delL j.v.its n.txn } := by unfold applyS; rw [hl]; dsimp only; rw [if_pos hE0]
  have hpos : 0 < n.stamp := by omega
  refine ⟨⟨rfl, hd, hE, ?_, hr2⟩, hpos, by rw [hS], fun t h => ?_⟩
  · rw [hS]
    refine ⟨hj.w.apply _ _, delL_ok hj.kp _, putL_ok hj.kd _ _, fun t s h => ?_, fun t s h => ?_, ?_, ?_⟩
    · dsimp only at h ⊢
      rw [hSv]
      dsimp only
      rw [lkL_put hj.kd] at h
      rw [lkL_delI]
      by_cases ht : t = n.txn
      · rw [if_pos ht]
      · rw [if_neg ht] at h ⊢; exact hj.o t s h
    · dsimp only at h
      rw [lkL_put hj.kd] at h
      by_cases ht : t = n.txn
      · rw [if_pos ht] at h; cases h; exact hpos
      · rw [if_neg ht] at h; exact hj.p t s h
    · rw [hSv]; exact hj.m
    · rw [hSv]
      exact applyC_ne hj.w.k1 (hj.w.wf.io _ (lk_memL hl)).2.1 hj.ne
  · rw [hS] at h
    dsimp only at h
    rw [hSv] at h
    dsimp only at h
    rw [lkL_delI] at h
    by_cases ht : t = n.txn
    · rw [if_pos ht] at h; cases h
    · rw [if_neg ht] at h; exact h
theorem once_abort {j : JS} {k : Nat} (hj : JOK j k) {n : NA} (h0 : 0 ≤ n.txn) (hl : (lkL j.v.its n.txn).isSome = true) :
    Once j k n (aboN n.txn) ∧ (appS j (aboN n.txn)).done = j.done ∧ ∀ t, (lkL (appS j (aboN n.txn)).v.its t).isSome = true → t ≠ n.txn ∧ (lkL j.v.its t).isSome = true := by
  have hd : lkL j.done n.txn = none := by
    cases hz : lkL j.done n.txn with
    | none => rfl
    | some s => rw [hj.o _ _ hz] at hl; cases hl
  have hr2 : rightN (aboN n.txn) = true := right_abort h0
  have hE : appE j (aboN n.txn) = 0 := by
    unfold appE
    rw [if_neg (by rw [hr2]; decide), if_neg (show ¬ (14 : Int) = 12 by decide), if_neg (show ¬ (14 : Int) = 13 by decide), if_pos rfl]
    exact if_pos hl
  have hS : appS j (aboN n.txn) = ⟨{ j.v with its := delL j.v.its n.txn }, delL j.parts n.txn, j.done⟩ := by
    unfold appS
    rw [if_neg (by rw [hE]; decide), if_neg (show ¬ (14 : Int) = 12 by decide), if_neg (show ¬ (14 : Int) = 13 by decide), if_pos rfl]
  refine ⟨⟨rfl, hd, hE, ?_, hr2⟩, by rw [hS], fun t h => ?_⟩
  · rw [hS]
    refine ⟨(hj.w.free _).mono (by omega), delL_ok hj.kp _, hj.kd, fun t s h => ?_, hj.p, hj.m, hj.ne⟩
    dsimp only at h ⊢
    rw [lkL_delI]
    by_cases ht : t = n.txn
    · rw [if_pos ht]
    · rw [if_neg ht]; exact hj.o t s h
  · rw [hS] at h
    dsimp only at h
    rw [lkL_delI] at h
    by_cases ht : t = n.txn
    · rw [if_pos ht] at h; cases h
    · rw [if_neg ht] at h; exact ⟨ht, h⟩
theorem plan_cases {j : JS} {k : Nat} (hj : JOK j k) {n : NA} (h0 : 0 ≤ n.txn) (f : Int) :
    (planV j f n).rec_ = [] ∨
    ((planV j f n).rec_ = [{ n with kind := 12 }] ∧ Once j k n { n with kind := 12 } ∧ (appS j { n with kind := 12 }).done = j.done ∧ ∀ t, (lkL (appS j { n with kind := 12 }).v.its t).isSome = true → t = n.txn ∨ (lkL j.v.its t).isSome = true) ∨
    ((planV j f n).rec_ = [comN n.txn n.stamp] ∧ (lkL j.v.its n.txn).isSome = true ∧ Once j k n (comN n.txn n.stamp) ∧ 0 < n.stamp ∧ (appS j (comN n.txn n.stamp)).done = putL j.done n.txn n.stamp ∧ ∀ t, (lkL (appS j (comN n.txn n.stamp)).v.its t).isSome = true → (lkL j.v.its t).isSome = true) ∨
    ((planV j f n).rec_ = [aboN n.txn] ∧ Once j k n (aboN n.txn) ∧ (appS j (aboN n.txn)).done = j.done ∧ ∀ t, (lkL (appS j (aboN n.txn)).v.its t).isSome = true → t ≠ n.txn ∧ (lkL j.v.its t).isSome = true) := by
  unfold planV
  cases hr : rightN n with
  | false => left; rfl
  | true =>
  rw [if_neg (by decide)]
  by_cases h3 : n.kind = 3
  · rw [if_pos h3]
    by_cases hf : f = 0
    · rw [if_pos hf]
      unfold prepV
      by_cases c1 : (lkL j.done n.txn).isSome = true ∨ checkV j.v.dim n.ops ≠ 0
      · rw [if_pos c1]; left; rfl
      rw [if_neg c1]
      simp only [not_or, Decidable.not_not] at c1
      by_cases c2 : (lkL j.v.its n.txn).isSome = true
      · rw [if_pos c2]; left; rfl
      rw [if_neg c2]
      cases c3 : takenV j.v n.ops with
      | true => left; rfl
      | false =>
        rw [if_neg (by decide)]
        right; left
        exact ⟨rfl, once_prep hj hr h3 (isSome_ne c1.1) c1.2 (isSome_ne c2) c3⟩
    · rw [if_neg hf]; left; rfl
  rw [if_neg h3]
  by_cases h5 : n.kind = 5
  · rw [if_pos h5]
    unfold deciV
    by_cases c1 : n.code ≠ 0
    · rw [if_pos c1]
      by_cases c2 : (lkL j.v.its n.txn).isSome = true ∧ f = 0
      · rw [if_pos c2]
        right; right; right
        exact ⟨rfl, once_abort hj h0 c2.1⟩
      · rw [if_neg c2]; left; rfl
    rw [if_neg c1]
    cases hd : lkL j.done n.txn with
    | some s =>
      dsimp only
      by_cases c2 : s = n.stamp
      · rw [if_pos c2]; left; rfl
      · rw [if_neg c2]; left; rfl
    | none =>
      dsimp only
      cases hl : lkL j.v.its n.txn with
      | none => left; rfl
      | some i =>
        dsimp only
        by_cases c3 : max i.1 j.v.mark < n.stamp ∧ aboveV j.v n.stamp i.2 = true
        · rw [if_pos c3]
          right; right; left
          exact ⟨rfl, rfl, once_commit hj hr hd hl c3.1 c3.2⟩
        · rw [if_neg c3]; left; rfl
  rw [if_neg h5]
  by_cases h7 : n.kind = 7
  · rw [if_pos h7]
    cases hd : lkL j.done n.txn with
    | some s => left; rfl
    | none => left; rfl
  · rw [if_neg h7]; left; rfl
end Go.Proofs.YtiampehfpgcogaaDoor
namespace Go.Proofs.YtiampehfpgcogaaDoor
open Go Go.SX
attribute [local irreducible] swp opsS thenS blockS retS CallsS St Ent YieldS anyS drawS
end Go.Proofs.YtiampehfpgcogaaDoor
namespace Go.Proofs.YtiampehfpgcogaaDoor
open Go Go.SX
attribute [local irreducible] swp opsS thenS blockS retS CallsS St Ent YieldS anyS drawS
def DJ (st : VS) : Prop := ∀ i ∈ st.its, ∀ j ∈ st.its, i.1 ≠ j.1 → ∀ x ∈ i.2.2.map (·.1), x ∉ j.2.2.map (·.1)
theorem DJ.sub {st st' : VS} (h : DJ st) (hs : ∀ i ∈ st'.its, i ∈ st.its) : DJ st' := fun i hi j hj => h i (hs i hi) j (hs j hj)
end Go.Proofs.YtiampehfpgcogaaDoor
namespace Go.Proofs.YtiampehfpgcogaaDoor
open Go Go.SX
structure JOW (j : JS) (n : Nat) : Prop where
  w : WFK j.v n
  kp : keysOK j.parts
  kd : keysOK j.done
  p : ∀ t s, lkL j.done t = some s → 0 < s
  m : 0 ≤ j.v.mark
  ne : ∀ c ∈ j.v.ch, 0 < c.2.length
  dj : DJ j.v
  pl : j.parts.length ≤ n
  dl : j.done.length ≤ n
theorem DJ.lock {st : VS} (h : DJ st) (t a : Int) (ops : VL) : DJ (lockS st t a ops) := by
  unfold lockS
  split
  · rename_i hE
    unfold lockE at hE
    by_cases h1 : 1099511627776 < a
    · rw [if_pos h1] at hE; cases hE
    rw [if_neg h1] at hE
    by_cases h2 : checkV st.dim ops ≠ 0
    · rw [if_pos h2] at hE; exact absurd hE h2
    rw [if_neg h2] at hE
    by_cases h3 : (lkL st.its t).isSome = true
    · rw [if_pos h3] at hE; cases hE
    rw [if_neg h3] at hE
    have hfree : ∀ i ∈ st.its, ∀ x ∈ ops.map (·.1), x ∉ i.2.2.map (·.1) := by
      intro i hi x hx hx2
      obtain ⟨w, hw, rfl⟩ := List.mem_map.1 hx
      obtain ⟨u, hu, hux⟩ := List.mem_map.1 hx2
      have : (ops.any fun o => st.its.any fun i => holdsV i.2.2 o.1) = true := List.any_eq_true.2 ⟨w, hw, List.any_eq_true.2 ⟨i, hi, List.any_eq_true.2 ⟨u, hu, decide_eq_true hux⟩⟩⟩
      rw [if_pos this] at hE
      cases hE
    intro i hi j hj hij x hx
    rcases List.mem_append.1 hi with hi | hi
    · rcases List.mem_append.1 hj with hj | hj
      · exact h i hi j hj hij x hx
      · obtain rfl := List.mem_singleton.1 hj
        exact fun hx2 => hfree i hi x hx2 hx
    · obtain rfl := List.mem_singleton.1 hi
      rcases List.mem_append.1 hj with hj | hj
      · exact hfree j hj x hx
      · obtain rfl := List.mem_singleton.1 hj
        exact absurd rfl hij
  · exact h
end Go.Proofs.YtiampehfpgcogaaDoor
namespace Go.Proofs.YtiampehfpgcogaaDoor
open Go Go.SX
attribute [local irreducible] swp opsS thenS blockS retS CallsS St Ent YieldS anyS drawS
end Go.Proofs.YtiampehfpgcogaaDoor
namespace Go.Proofs.YtiampehfpgcogaaDoor
open Go Go.SX
attribute [local irreducible] swp opsS thenS blockS retS CallsS St Ent YieldS anyS drawS
end Go.Proofs.YtiampehfpgcogaaDoor
namespace Go.Proofs.YtiampehfpgcogaaDoor
open Go Go.SX
attribute [local irreducible] swp opsS thenS blockS retS CallsS St Ent YieldS anyS drawS
end Go.Proofs.YtiampehfpgcogaaDoor
namespace Go.Proofs.YtiampehfpgcogaaDoor
open Go Go.SX
attribute [local irreducible] swp opsS thenS blockS retS CallsS St Ent YieldS anyS drawS
end Go.Proofs.YtiampehfpgcogaaDoor
namespace Go.Proofs.YtiampehfpgcogaaDoor
open Go Go.SX
attribute [local irreducible] swp opsS thenS blockS retS CallsS St Ent YieldS anyS drawS
end Go.Proofs.YtiampehfpgcogaaDoor
namespace Go.Proofs.YtiampehfpgcogaaDoor
open Go Go.SX
attribute [local irreducible] swp opsS thenS blockS retS CallsS St Ent YieldS anyS drawS
structure okN (M : Nat → Option Obj) (n : NV) : Prop where
  p : SlM M n.pa n.parts.length 1 (n.parts.map I64)
  o : SlM M n.oa n.ops.length 2 (n.ops.flatMap OV.cells) ∧ okR M n.ops
  v : SlM M n.va n.vec.length 1 (n.vec.map I32)
  h : SlM M n.ha n.hits.length 3 (n.hits.flatMap HV.cells)
  hv : ∀ h ∈ n.hits, SlM M h.a h.vec.length 1 (h.vec.map I32)
theorem okN.mono {M M' : Nat → Option Obj} {n : NV} (h : okN M n) (hl : leM M M') : okN M' n := ⟨h.p.mono hl, ⟨h.o.1.mono hl, fun o ho => (h.o.2 o ho).mono hl⟩, h.v.mono hl, h.h.mono hl, fun x hx => (h.hv x hx).mono hl⟩
theorem okN.rd {M : Nat → Option Obj} {n : NV} (h : okN M n) {L : List HP} [HasM M L] : RdN L n := ⟨h.p.rd, ⟨h.o.1.rd, fun o ho => (h.o.2 o ho).rd⟩, h.v.rd, h.h.rd, fun x hx => (h.hv x hx).rd⟩
def TabM (M : Nat → Option Obj) : Prop := SlM M (some ⟨0, 0, none⟩) 46 1 sortsC
theorem TabM.mono {M M' : Nat → Option Obj} (h : TabM M) (hl : leM M M') : TabM M' := SlM.mono h hl
theorem TabM.rd {M : Nat → Option Obj} (h : TabM M) {L : List HP} [HasM M L] : RdC L 0 0 sortsC := by
  have h1 : RdS L (some ⟨0, 0, none⟩) 46 1 sortsC := SlM.rd h
  rcases h1.2 with h2 | ⟨b, o, e, r⟩
  · cases h2
  · cases e; exact r
structure NumN (n : NV) : Prop where
  kind : 0 ≤ n.kind ∧ n.kind ≤ 255
  txn : 0 ≤ n.txn
  stamp : 0 ≤ n.stamp
  mark : 0 ≤ n.mark
  after : 0 ≤ n.after
abbrev NA.nv (r : NA) : NV := ⟨r.kind, r.txn, r.batch, r.stamp, r.after, r.mark, r.query, r.id, r.k, r.ef, r.code, r.who, none, 0, [], none, 0, [], none, 0, [], none, 0, []⟩
theorem SlM.nil0 {M : Nat → Option Obj} {a : Option Addr} {sz : Nat} : SlM M a 0 sz [] := ⟨by simp, .inl rfl⟩
theorem okN.nv {M : Nat → Option Obj} (r : NA) : okN M r.nv := ⟨SlM.nil0, ⟨SlM.nil0, fun o ho => by cases ho⟩, SlM.nil0, SlM.nil0, fun o ho => by cases ho⟩
theorem OkN.nv (r : NA) : OkN r.nv := ⟨Nat.zero_le _, Nat.zero_le _, (fun o ho => by cases ho), Nat.zero_le _, Nat.zero_le _, (fun o ho => by cases ho)⟩
structure PV where
  a : Option Addr
  c : Nat
  l : List Int
abbrev PV.val (v : PV) : Value := .slice v.a v.l.length v.c
structure JQ (M : Nat → Option Obj) (j : JS) (sf : Int) (ps : List (Int × PV)) : Prop where
  s1 : 1 ≤ sf
  s2 : sf ≤ 15
  pt : ps.map (fun u => (u.1, u.2.l)) = j.parts
  ok : ∀ u ∈ ps, SlM M u.2.a u.2.l.length 1 (u.2.l.map I64)
theorem JQ.mono {M M' : Nat → Option Obj} {j : JS} {self : Int} {ps : List (Int × PV)} (h : JQ M j self ps) (hl : leM M M') : JQ M' j self ps := ⟨h.s1, h.s2, h.pt, fun u hu => (h.ok u hu).mono hl⟩
structure JX where
  v : Nat
  mp : Nat
  md : Nat
  self : Int
  ps : List (Int × PV)
section
variable {n : Nat} {ops rest : List Oper} {cd : Code} {Q : Post} {f : Env} {L L0 : List HP} {M : Nat → Option Obj} {j : JS}
end
abbrev mailC (m : Int × NA) : List Value := Value.int .i64 m.1 :: m.2.nv.cells
end Go.Proofs.YtiampehfpgcogaaDoor
namespace Go.Proofs.YtiampehfpgcogaaDoor
open Go Go.SX
attribute [local irreducible] swp opsS thenS blockS retS CallsS St Ent YieldS anyS drawS
abbrev IV.zero : IV := ⟨0, 0, none, 0, []⟩
theorem okI.zero {M : Nat → Option Obj} : okI M IV.zero := ⟨SlM.nil0, fun o ho => by cases ho⟩
end Go.Proofs.YtiampehfpgcogaaDoor
namespace Go.SX
open Go
section
variable {P : Program} {n : Nat} {ops : List Oper} {Q : Post} {f : Env} {A L : List HP} {cs : List Nat}
end
section
variable {P : Program} {n : Nat} {ops : List Oper} {Q : Post} {f : Env} {A L : List HP} {E cs σ : List Nat} {listed : Array Bool} {held : Bool}
end
section
variable {P : Program} {n : Nat} {ops rest : List Oper} {Q : Post} {f : Env} {A L : List HP} {d : Tmp} {ty : TypeId} {pos : String} {af : Array Edge}
end
end Go.SX
namespace Go.Proofs.YtiampehfpgcogaaDoor
open Go Go.SX
attribute [local irreducible] swp opsS thenS blockS retS CallsS St Ent YieldS anyS drawS
def liftN (n : NV) (r : NA) : NV := if r.kind = 12 then { n with kind := 12 } else r.nv
end Go.Proofs.YtiampehfpgcogaaDoor
namespace Go.Proofs.YtiampehfpgcogaaDoor
open Go Go.SX
attribute [local irreducible] swp opsS thenS blockS retS CallsS St Ent YieldS anyS drawS
end Go.Proofs.YtiampehfpgcogaaDoor
namespace Go.Proofs.YtiampehfpgcogaaDoor
open Go Go.SX
attribute [local irreducible] swp opsS thenS blockS retS CallsS St Ent YieldS anyS drawS
end Go.Proofs.YtiampehfpgcogaaDoor
namespace Go.Proofs.YtiampehfpgcogaaDoor
open Go Go.SX
attribute [local irreducible] swp opsS thenS blockS retS CallsS St Ent YieldS anyS drawS
theorem P_one (xs : List Int) : (xs.map I64).all (·.oneCell') = true := by simp [Value.oneCell']
theorem CloneP_spec (a : Option Addr) (c : Nat) (xs : List Int) (A : List HP) (h : RdS A a xs.length 1 (xs.map I64)) (hn : xs.length ≤ 1000000) :
    CallsS Tryd.prog 28 [.slice a xs.length c] A (fun v L' => ∃ a' c', v = .slice a' xs.length c' ∧ L' = slO 3 1 a' xs.length c' (xs.map I64) :: A) := by
  refine CallsS.of_body Tryd.func28 rfl rfl rfl ?_
  cases a with
  | none =>
    have hx : xs = [] := by
      rcases h.2 with h0 | ⟨_, _, h0, _⟩
      · exact List.eq_nil_of_length_eq_zero h0
      · cases h0
    subst hx
    refine Q.r ?_; (repeat (intro b1; refine Q.r ?_))
    exact N.r1 (RV.tmp rfl RV.nil) slO_nil ⟨none, 0, rfl, rfl⟩
  | some ad =>
    refine Q.r ?_; (repeat (intro b1; refine Q.r ?_))
    refine opsS_ent (slO_fold (sz := 1) (m := 0) rfl) ?_
    refine S.app0 rfl rfl rfl (SrcS.rd h.sub (P_one _)) (by rfl) (by omega) (by omega) (fun a5 c5 => ?_)
    refine Q.r ?_; (repeat (intro b1; refine Q.r ?_))
    exact N.r1 (RV.tmp rfl RV.nil) (Ent.refl _) ⟨a5, c5, rfl, rfl⟩
theorem putL_map {κ α β : Type} [DecidableEq κ] (f : α → β) (m : List (κ × α)) (x : κ) (a : α) : (putL m x a).map (fun u => (u.1, f u.2)) = putL (m.map fun u => (u.1, f u.2)) x (f a) := by
  unfold putL
  rw [List.any_map]
  have : ((fun p : κ × β => decide (p.1 = x)) ∘ fun u : κ × α => (u.1, f u.2)) = fun p => decide (p.1 = x) := rfl
  rw [this]
  cases m.any fun p => decide (p.1 = x) with
  | true =>
    simp only [if_true, List.map_map]
    refine List.map_congr_left fun u _ => ?_
    show (_ : κ × β) = if u.1 = x then (x, f a) else (u.1, f u.2)
    by_cases h : u.1 = x
    · simp [h]
    · simp [h]
  | false => simp
theorem delL_map {κ α β : Type} [DecidableEq κ] (f : α → β) (m : List (κ × α)) (x : κ) : (delL m x).map (fun u => (u.1, f u.2)) = delL (m.map fun u => (u.1, f u.2)) x := by
  unfold delL
  rw [List.filter_map]; rfl
theorem JQ.put {M : Nat → Option Obj} {j j' : JS} {sf : Int} {ps : List (Int × PV)} (h : JQ M j sf ps) {t : Int} {v : PV} (hv : SlM M v.a v.l.length 1 (v.l.map I64)) (hj : j'.parts = putL j.parts t v.l) : JQ M j' sf (putL ps t v) := by
  refine ⟨h.s1, h.s2, by rw [hj, ← h.pt, putL_map (fun v : PV => v.l)], fun u hu => ?_⟩
  unfold putL at hu
  split at hu
  · obtain ⟨w, hw, rfl⟩ := List.mem_map.1 hu
    split
    · exact hv
    · exact h.ok w hw
  · rcases List.mem_append.1 hu with hu | hu
    · exact h.ok u hu
    · rw [List.mem_singleton.1 hu]; exact hv
theorem JQ.same {M : Nat → Option Obj} {j j' : JS} {sf : Int} {ps : List (Int × PV)} (h : JQ M j sf ps) (hj : j'.parts = j.parts) : JQ M j' sf ps := ⟨h.s1, h.s2, by rw [hj, h.pt], h.ok⟩
end Go.Proofs.YtiampehfpgcogaaDoor
namespace Go.Proofs.YtiampehfpgcogaaDoor
open Go Go.SX
attribute [local irreducible] swp opsS thenS blockS retS CallsS St Ent YieldS anyS drawS
abbrev J0 (dim : Int) : JS := ⟨⟨dim, [], [], 0⟩, [], []⟩
theorem J0.ok {dim : Int} (h1 : 1 ≤ dim) (h2 : dim ≤ 8) : JOK (J0 dim) 0 :=
  ⟨⟨⟨h1, h2, Nat.le_refl _, (fun i hi => by cases hi), Nat.le_refl _, (fun c hc => by cases hc)⟩, by simp [keysOK], by simp [keysOK]⟩, by simp [keysOK], by simp [keysOK], (fun t s h => by cases h), (fun t s h => by cases h), Int.le_refl _, (fun c hc => by cases hc)⟩
section
variable {n : Nat} {ops rest : List Oper} {cd : Code} {Q : Post} {f : Env} {L L0 : List HP} {M : Nat → Option Obj} {j : JS}
end
abbrev exA : NA := { NA.zero with kind := 3, txn := 7, ops := [(1, [5])] }
abbrev J1 : JS := ⟨⟨1, [], [(7, 0, [(1, [5])])], 0⟩, [(7, [])], []⟩
abbrev J2 : JS := ⟨⟨1, [(1, [(5, [5])])], [], 0⟩, [], [(7, 5)]⟩
theorem ex1 : planV (J0 1) 0 exA = ⟨[{ exA with kind := 12 }], [voteN 7 0], [voteN 7 8]⟩ := by kernel_rfl
theorem ex2 : appS (J0 1) { exA with kind := 12 } = J1 := by kernel_rfl
theorem ex3 : planV J1 0 { NA.zero with kind := 5, txn := 7, stamp := 5 } = ⟨[comN 7 5], [ackN 7], []⟩ := by kernel_rfl
theorem ex4 : appS J1 (comN 7 5) = J2 := by kernel_rfl
theorem J1.ok : JOK J1 1 := by
  have h := plan_cases (J0.ok (dim := 1) (by decide) (by decide)) (n := exA) (by decide) 0
  rw [ex1] at h
  rcases h with h | h | h | h
  · cases h
  · have := h.2.1.ok
    rw [ex2] at this; exact this
  · simp at h
  · simp at h
theorem J2.ok : JOK J2 2 := by
  have h := plan_cases J1.ok (n := { NA.zero with kind := 5, txn := 7, stamp := 5 }) (by decide) 0
  rw [ex3] at h
  rcases h with h | h | h | h
  · cases h
  · simp at h
  · have := h.2.2.1.ok
    rw [ex4] at this; exact this
  · simp at h
end Go.Proofs.YtiampehfpgcogaaDoor
namespace Go.Proofs.YtiampehfpgcogaaDoor
open Go Go.SX
attribute [local irreducible] swp opsS thenS blockS retS CallsS St Ent YieldS anyS drawS
abbrev HV.ov (h : HV) : OV := ⟨h.id, h.a, h.c, h.vec⟩
structure CapN (n : NV) : Prop where
  p : n.parts.length ≤ n.pc
  ov : ∀ o ∈ n.ops, o.vec.length ≤ o.c
  v : n.vec.length ≤ n.vc
  hv : ∀ h ∈ n.hits, h.vec.length ≤ h.c
  p2 : n.parts.length ≤ 9223372036854775807
  o2 : n.ops.length ≤ 9223372036854775807
  v2 : n.vec.length ≤ 9223372036854775807
  h2 : n.hits.length ≤ 9223372036854775807
end Go.Proofs.YtiampehfpgcogaaDoor
namespace Go.Proofs.YtiampehfpgcogaaDoor
open Go Go.SX
structure NumA (n : NA) : Prop where
  kind : 0 ≤ n.kind ∧ n.kind ≤ 255
  txn : 0 ≤ n.txn ∧ n.txn ≤ 18446744073709551615
  batch : 0 ≤ n.batch ∧ n.batch ≤ 18446744073709551615
  stamp : 0 ≤ n.stamp ∧ n.stamp ≤ 18446744073709551615
  after : 0 ≤ n.after ∧ n.after ≤ 18446744073709551615
  mark : 0 ≤ n.mark ∧ n.mark ≤ 18446744073709551615
  query : 0 ≤ n.query ∧ n.query ≤ 18446744073709551615
  id : 0 ≤ n.id ∧ n.id ≤ 18446744073709551615
  k : n.k ≤ 9223372036854775807
  ef : n.ef ≤ 9223372036854775807
  code : n.code ≤ 9223372036854775807
  who : n.who ≤ 9223372036854775807
end Go.Proofs.YtiampehfpgcogaaDoor
namespace Go.Proofs.YtiampehfpgcogaaDoor
open Go Go.SX
def stepS (j : JS) (f : Int) (n : NA) (w raw : Bool) : JS := if raw then appS j n else if w then (planV j f n).rec_.foldl appS j else j
end Go.Proofs.YtiampehfpgcogaaDoor
namespace Go.SX
open Go
end Go.SX
namespace Go.Proofs.YtiampehfpgcogaaDoor
open Go Go.SX
attribute [local irreducible] swp opsS thenS blockS retS CallsS St Ent YieldS anyS drawS
end Go.Proofs.YtiampehfpgcogaaDoor
namespace Go.SX
open Go
end Go.SX
namespace Go.Proofs.YtiampehfpgcogaaDoor
open Go Go.SX
attribute [local irreducible] swp opsS thenS blockS retS CallsS St Ent YieldS anyS drawS
structure QV where
  txn : Int
  a : Option Addr
  c : Nat
  l : List Int
abbrev QV.cells (v : QV) : List Value := [.int .u64 v.txn, .slice v.a v.l.length v.c]
abbrev QV.abs (v : QV) : Int × List Int := (v.txn, v.l)
abbrev dC (d : Int × Int) : List Value := [.int .u64 d.1, .int .u64 d.2]
structure RJOK (M : Nat → Option Obj) (j : JS) (sf : Int) (pa : Option Addr) (pc : Nat) (ps : List QV) (da : Option Addr) (dc : Nat) (ds : List (Int × Int)) : Prop where
  s1 : 1 ≤ sf
  s2 : sf ≤ 15
  pp : (ps.map QV.abs).Perm j.parts
  po : ∀ u ∈ ps, SlM M u.a u.l.length 1 (u.l.map I64)
  pS : SlM M pa ps.length 2 (ps.flatMap QV.cells)
  dp : ds.Perm j.done
  sd : (ds.map (·.1)).Pairwise (· < ·)
  dS : SlM M da ds.length 2 (ds.flatMap dC)
  dc : ds.length ≤ dc
  kp : keysOK j.parts
  kd : keysOK j.done
structure RJX where
  v : Nat
  self : Int
  pa : Option Addr
  pc : Nat
  ps : List QV
  da : Option Addr
  dc : Nat
  ds : List (Int × Int)
  M : Nat → Option Obj
section
variable {n : Nat} {ops rest : List Oper} {cd : Code} {Q : Post} {f : Env} {L L0 : List HP} {j : JS}
end
end Go.Proofs.YtiampehfpgcogaaDoor
namespace Go.Proofs.YtiampehfpgcogaaDoor
open Go Go.SX
attribute [local irreducible] swp opsS thenS blockS retS CallsS St Ent YieldS anyS drawS
abbrev mcells (m : Int × NV) : List Value := I64 m.1 :: m.2.cells
end Go.Proofs.YtiampehfpgcogaaDoor
namespace Go.SX
open Go
section
variable {P : Program} {n : Nat} {ops rest : List Oper} {cd : Code} {Q : Post} {f : Env} {L L0 L1 L2 : List HP} {d : Tmp} {ty : TypeId} {pos : String} {af : Array Edge} {A B C : HP} {g : FuncId} {xs : Array Operand} {ats : Array TypeId} {args : List Value} {R : Value → List HP → Prop}
theorem S.c1 [he : Enters P g] (hx : argsL f xs.toList = some args) (hc : CallsS P g args (A :: L0) R) [h1 : Pick A L L0] (hk : ∀ v L', R v L' → opsS P n ops rest Q (upd f d v) L') :
    opsS P n ops (⟨some d, .call ⟨.value (.func g), xs, ats⟩, ty, pos, af, none⟩ :: rest) Q f L := opsS_ent h1.ent (S.cr hx hc hk)
theorem S.c2 [he : Enters P g] (hx : argsL f xs.toList = some args) (hc : CallsS P g args (A :: B :: L1) R) [h1 : Pick A L L0] [h2 : Pick B L0 L1] (hk : ∀ v L', R v L' → opsS P n ops rest Q (upd f d v) L') :
    opsS P n ops (⟨some d, .call ⟨.value (.func g), xs, ats⟩, ty, pos, af, none⟩ :: rest) Q f L := opsS_ent (h1.ent.trans h2.ent.cons) (S.cr hx hc hk)
theorem S.c3 [he : Enters P g] (hx : argsL f xs.toList = some args) (hc : CallsS P g args (A :: B :: C :: L2) R) [h1 : Pick A L L0] [h2 : Pick B L0 L1] [h3 : Pick C L1 L2] (hk : ∀ v L', R v L' → opsS P n ops rest Q (upd f d v) L') :
    opsS P n ops (⟨some d, .call ⟨.value (.func g), xs, ats⟩, ty, pos, af, none⟩ :: rest) Q f L := opsS_ent (h1.ent.trans (h2.ent.trans h3.ent.cons).cons) (S.cr hx hc hk)
end
end Go.SX
namespace Go.Proofs.YtiampehfpgcogaaDoor
open Go Go.SX
attribute [local irreducible] swp opsS thenS blockS retS CallsS St Ent YieldS anyS drawS
def liftQ (n : NV) (r : NA) : NV := if r.kind = 12 then ⟨12, n.txn, 0, 0, n.after, 0, 0, 0, 0, 0, 0, 0, n.pa, n.pc, n.parts, n.oa, n.oc, n.ops, none, 0, [], none, 0, []⟩ else r.nv
end Go.Proofs.YtiampehfpgcogaaDoor
namespace Go.Proofs.YtiampehfpgcogaaDoor
open Go Go.SX
attribute [local irreducible] swp opsS thenS blockS retS CallsS St Ent YieldS anyS drawS
section
variable {n : Nat} {ops rest : List Oper} {cd : Code} {Q : Post} {f : Env} {L L0 : List HP}
end
theorem RJOK.same {M : Nat → Option Obj} {j j' : JS} {sf : Int} {pa : Option Addr} {pc : Nat} {ps : List QV} {da : Option Addr} {dc : Nat} {ds : List (Int × Int)} (h : RJOK M j sf pa pc ps da dc ds) (hj : j'.parts = j.parts) (hd : j'.done = j.done) : RJOK M j' sf pa pc ps da dc ds :=
  ⟨h.s1, h.s2, hj ▸ h.pp, h.po, h.pS, hd ▸ h.dp, h.sd, h.dS, h.dc, hj ▸ h.kp, hd ▸ h.kd⟩
end Go.Proofs.YtiampehfpgcogaaDoor
namespace Go.Proofs.YtiampehfpgcogaaDoor
open Go Go.SX
attribute [local irreducible] swp opsS thenS blockS retS CallsS St Ent YieldS anyS drawS
def RdNs (A : List HP) (a : Option Addr) (xs : List NV) : Prop := RdS A a xs.length 16 (xs.flatMap NV.cells) ∧ ∀ n ∈ xs, RdN A n ∧ OkN n
def RdMs (A : List HP) (a : Option Addr) (xs : List (Int × NV)) : Prop := RdS A a xs.length 17 (xs.flatMap mcells) ∧ ∀ n ∈ xs, RdN A n.2 ∧ OkN n.2
theorem RdNs.sub {A L : List HP} {a : Option Addr} {xs : List NV} (h : RdNs A a xs) [s : Sub A L] : RdNs L a xs := ⟨h.1.sub, fun n hn => ⟨(h.2 n hn).1.sub, (h.2 n hn).2⟩⟩
theorem RdMs.sub {A L : List HP} {a : Option Addr} {xs : List (Int × NV)} (h : RdMs A a xs) [s : Sub A L] : RdMs L a xs := ⟨h.1.sub, fun n hn => ⟨(h.2 n hn).1.sub, (h.2 n hn).2⟩⟩
end Go.Proofs.YtiampehfpgcogaaDoor
namespace Go.Proofs.YtiampehfpgcogaaDoor
open Go Go.SX
attribute [local irreducible] swp opsS thenS blockS retS CallsS St Ent YieldS anyS drawS
structure EO where
  fr : Int
  n : NV
  w : Bool
  r : Bool
  ask : Int
  id : Int
abbrev EO.cells (o : EO) : List Value := [.int .i64 o.fr, .int .u8 o.n.kind, .int .u64 o.n.txn, .int .u64 o.n.batch, .int .u64 o.n.stamp, .int .u64 o.n.after, .int .u64 o.n.mark, .int .u64 o.n.query, .int .u64 o.n.id, .int .i64 o.n.k, .int .i64 o.n.ef, .int .i64 o.n.code, .int .i64 o.n.who,
  .slice o.n.pa o.n.parts.length o.n.pc, .slice o.n.oa o.n.ops.length o.n.oc, .slice o.n.va o.n.vec.length o.n.vc, .slice o.n.ha o.n.hits.length o.n.hc, .bool o.w, .bool o.r, .int .u64 o.ask, .int .u64 o.id]
structure EOK (M : Nat → Option Obj) (o : EO) : Prop where
  n : okN M o.n
  c : CapN o.n
  u : NumN o.n
  uu : NumA o.n.abs
theorem EOK.mono {M M' : Nat → Option Obj} {o : EO} (h : EOK M o) (hl : leM M M') : EOK M' o := ⟨h.n.mono hl, h.c, h.u, h.uu⟩
section
variable {n : Nat} {ops rest : List Oper} {Q : Post} {f : Env} {L L0 : List HP} {M : Nat → Option Obj}
end
structure OnceI (j : JS) (k : Nat) (P : List (Int × Bool)) : Prop where
  ok : JOK j k
  kP : keysOK P
  pr : ∀ t, (lkL j.v.its t).isSome = true → lkL P t = some true
end Go.Proofs.YtiampehfpgcogaaDoor
namespace Go.Proofs.YtiampehfpgcogaaDoor
open Go Go.SX
attribute [local irreducible] swp opsS thenS blockS retS CallsS St Ent YieldS anyS drawS
structure S5 where
  b9 : Nat
  b10 : Nat
  ra : Option Addr
  rc : Nat
  ma : Option Addr
  mc : Nat
  ea : Option Addr
  ec : Nat
  qa : Option Addr
  qc : Nat
  qb : Option Addr
  qd : Nat
  qe : Option Addr
  qf : Nat
  M : Nat → Option Obj
structure RecOK (n2 n1 : NV) (r : NA) : Prop where
  e1 : (liftN n2 r).abs = r
  e2 : (liftQ n1 r).abs = r
  n2 : NumN (liftN n2 r)
  u1 : NumA (liftQ n1 r).abs
theorem okN.lift {M : Nat → Option Obj} {n : NV} (h : okN M n) (r : NA) : okN M (liftN n r) := by
  unfold liftN
  split
  · exact ⟨h.p, h.o, h.v, h.h, h.hv⟩
  · exact okN.nv r
theorem OkN.lift {n : NV} (h : OkN n) (r : NA) : OkN (liftN n r) := by
  unfold liftN
  split
  · exact ⟨h.p, h.o, h.ov, h.v, h.h, h.hv⟩
  · exact OkN.nv r
theorem okN.liftQ {M : Nat → Option Obj} {n : NV} (h : okN M n) (r : NA) : okN M (liftQ n r) := by
  unfold Go.Proofs.YtiampehfpgcogaaDoor.liftQ
  split
  · exact ⟨h.p, h.o, SlM.nil0, SlM.nil0, fun o ho => by cases ho⟩
  · exact okN.nv r
theorem OkN.liftQ {n : NV} (h : OkN n) (r : NA) : OkN (liftQ n r) := by
  unfold Go.Proofs.YtiampehfpgcogaaDoor.liftQ
  split
  · exact ⟨h.p, h.o, h.ov, Nat.zero_le _, Nat.zero_le _, fun o ho => by cases ho⟩
  · exact OkN.nv r
end Go.Proofs.YtiampehfpgcogaaDoor
namespace Go.Proofs.YtiampehfpgcogaaDoor
open Go Go.SX
attribute [local irreducible] swp opsS thenS blockS retS CallsS St Ent YieldS anyS drawS
theorem JOW.zero {dim : Int} (h1 : 1 ≤ dim) (h2 : dim ≤ 8) : JOW ⟨⟨dim, [], [], 0⟩, [], []⟩ 0 :=
  ⟨⟨⟨h1, h2, Nat.le_refl _, (fun i hi => by cases hi), Nat.le_refl _, (fun c hc => by cases hc)⟩, by simp [keysOK], by simp [keysOK]⟩, by simp [keysOK], by simp [keysOK], (fun t s h => by cases h), Int.le_refl _, (fun c hc => by cases hc), (fun i hi => by cases hi), Nat.le_refl _, Nat.le_refl _⟩
end Go.Proofs.YtiampehfpgcogaaDoor
namespace Go.Proofs.YtiampehfpgcogaaDoor
open Go Go.SX
attribute [local irreducible] swp opsS thenS blockS retS CallsS St Ent YieldS anyS drawS
end Go.Proofs.YtiampehfpgcogaaDoor
namespace Go.Proofs.YtiampehfpgcogaaDoor
open Go Go.SX
attribute [local irreducible] swp opsS thenS blockS retS CallsS St Ent YieldS anyS drawS
attribute [local irreducible] opsI
def srtM {α : Type} (m : List (Int × α)) : List (Int × α) := (sortL (m.map (·.1))).filterMap fun k => (lkL m k).map fun a => (k, a)
abbrev packVer (v : Int × List Int) : List UInt8 := numI v.1 ++ vecI v.2
abbrev packEnt (e : Int × VL) : List UInt8 := numI e.1 ++ numI (e.2.length : Int) ++ e.2.flatMap packVer
abbrev packPart (x : Int) : List UInt8 := numI (IntKind.u64.wrap x)
abbrev packInt (parts : List (Int × List Int)) (i : Int × Int × VL) : List UInt8 := numI i.1 ++ numI i.2.1 ++ numI (((lkL parts i.1).getD []).length : Int) ++ ((lkL parts i.1).getD []).flatMap packPart ++ numI (i.2.2.length : Int) ++ i.2.2.flatMap packVer
abbrev packDone (done : List (Int × Int)) (t : Int) : List UInt8 := numI t ++ numI ((lkL done t).getD 0)
def packV (j : JS) : List UInt8 :=
  numI j.v.mark ++ numI ((srtM j.v.ch).length : Int) ++ (srtM j.v.ch).flatMap packEnt ++ numI ((srtM j.v.its).length : Int) ++ (srtM j.v.its).flatMap (packInt j.parts) ++ numI (j.done.length : Int) ++ (sortL (j.done.map (·.1))).flatMap (packDone j.done)
end Go.Proofs.YtiampehfpgcogaaDoor
namespace Go.Proofs.YtiampehfpgcogaaDoor
open Go Go.SX
structure JPK (j : JS) : Prop where
  m : j.v.mark ≤ 18446744073709551615
  its : ∀ i ∈ j.v.its, i.1 ≤ 18446744073709551615 ∧ i.2.1 ≤ 18446744073709551615 ∧ ∀ o ∈ i.2.2, o.1 ≤ 18446744073709551615
  ch : ∀ c ∈ j.v.ch, c.1 ≤ 18446744073709551615 ∧ ∀ v ∈ c.2, v.1 ≤ 18446744073709551615
  done : ∀ d ∈ j.done, d.1 ≤ 18446744073709551615 ∧ d.2 ≤ 18446744073709551615
  parts : ∀ u ∈ j.parts, u.2.length ≤ 4
theorem JPK.zero {dim : Int} : JPK ⟨⟨dim, [], [], 0⟩, [], []⟩ := ⟨by show (0 : Int) ≤ 18446744073709551615; decide, (fun i hi => by cases hi), (fun i hi => by cases hi), (fun i hi => by cases hi), (fun i hi => by cases hi)⟩
end Go.Proofs.YtiampehfpgcogaaDoor
namespace Go.Proofs.YtiampehfpgcogaaDoor
open Go Go.SX
attribute [local irreducible] swp opsS thenS blockS retS CallsS St Ent YieldS anyS drawS
end Go.Proofs.YtiampehfpgcogaaDoor
namespace Go.Proofs.YtiampehfpgcogaaDoor
open Go Go.SX
attribute [local irreducible] swp opsS thenS blockS retS CallsS St Ent YieldS anyS drawS
end Go.Proofs.YtiampehfpgcogaaDoor
namespace Go.SX
open Go Go.ChangeShapes Go.WideShapes Go.RowKit
section
variable {H : Type} {enc : TypeId × Value → H} {P : Program} {W : World}
def Rd (enc : TypeId × Value → H) (P : Program) (W : World) (t : TypeId) (cs : List Value) : Prop := ∃ n x, DataW.trod enc P W 0 (fun _ => true) true n t cs = some x
theorem cells_of {w : World} {base : Nat} {a : Addr} {n : Nat} {cs : List Value} (h : w.cells? base a n = some cs) : cs.length = n ∧ ∀ j, j < n → w.cell? (a.add j) = cs[j]? := by
  unfold World.cells? at h
  split at h
  · exact ⟨by simpa using mapM_some_length h, fun j hj => by simpa using mapM_some_get h j j (by simp [hj])⟩
  · cases h
theorem cell_block {w : World} {a : Addr} {v : Value} (h : w.cell? a = some v) : ∃ l t fz, w.heap[a.block]? = some (.cells l t fz) ∧ l[a.off]? = some v ∧ a.spot = none := by
  unfold World.cell? at h
  split at h
  · rename_i c t fz hb
    split at h
    · cases h
    · rename_i hs
      refine ⟨c, t, fz, hb, h, by simpa using hs⟩
  · cases h
theorem add_at (x y n : Nat) : (⟨x, y, none⟩ : Addr).add n = ⟨x, y + n, none⟩ := by unfold Addr.add; split <;> simp_all
theorem flat_at {sz : Nat} : ∀ {rows : List (List Value)} {j : Nat} {v : Value}, (∀ r ∈ rows, r.length = sz) → rows.flatten[j]? = some v → ∃ k r i, rows[k]? = some r ∧ r[i]? = some v ∧ j = k * sz + i
  | [], j, v, _, h => by simp at h
  | r :: rows, j, v, hr, h => by
    have h0 := hr r (by simp)
    rw [List.flatten_cons] at h
    by_cases hj : j < r.length
    · rw [List.getElem?_append_left hj] at h
      exact ⟨0, r, j, rfl, h, by simp⟩
    · rw [List.getElem?_append_right (by omega)] at h
      obtain ⟨k, r', i, h1, h2, h3⟩ := flat_at (fun x hx => hr x (by simp [hx])) h
      exact ⟨k + 1, r', i, by simpa using h1, h2, by rw [Nat.succ_mul]; omega⟩
theorem Rd.slice {t e : TypeId} {sz : Nat} {cs : List Value} (h : Rd enc P W t cs) (ht : P.underlying t = some (.slice e)) (hs : P.cellsOf e = sz) (h0 : 0 < sz) :
    ∃ (a : Option Addr) (c : Nat) (rows : List (List Value)), cs = [.slice a rows.length c] ∧ rows.length ≤ c ∧ c ≤ maxLen ∧ SlM (all0 W) a rows.length sz rows.flatten ∧ ∀ r ∈ rows, r.length = sz ∧ Rd enc P W e r := by
  obtain ⟨n, x, h⟩ := h
  rcases DataW.trod_slice ht h with ⟨rfl, _⟩ | ⟨a, len, cap, elems, rest, n, rfl, rfl, _, _, hlc, hcm, hel, hat, _⟩
  · exact ⟨none, 0, [], rfl, Nat.le_refl _, Nat.zero_le _, SlM.nil, by simp⟩
  · simp only [hs] at hat
    have hrow : ∀ i, i < len → ∃ r y, W.cells? 0 (a.add (i * sz)) sz = some r ∧ DataW.trod enc P W 0 (fun _ => true) true n e r = some y := fun i hi => by
      have := hat i hi
      have hi' : i < elems.length := by omega
      rw [List.getElem?_eq_getElem hi'] at this
      obtain ⟨r, h1, h2⟩ := Option.bind_eq_some_iff.1 this
      exact ⟨r, _, h1, h2⟩
    let rows := (List.range len).map fun i => (W.cells? 0 (a.add (i * sz)) sz).getD []
    have hrl : rows.length = len := by simp [rows]
    have hri : ∀ i r, rows[i]? = some r → i < len ∧ W.cells? 0 (a.add (i * sz)) sz = some r := fun i r hr => by
      have hi : i < len := by have := (List.getElem?_eq_some_iff.1 hr).1; omega
      obtain ⟨r', y, h1, _⟩ := hrow i hi
      refine ⟨hi, ?_⟩
      simp only [rows, List.getElem?_map, List.getElem?_range hi, Option.map_some, Option.some.injEq, h1, Option.getD_some] at hr
      rw [← hr]; exact h1
    have hmem : ∀ r ∈ rows, r.length = sz ∧ Rd enc P W e r := fun r hr => by
      obtain ⟨i, hi, rfl⟩ := List.getElem_of_mem hr
      obtain ⟨h1, h2⟩ := hri i _ (List.getElem?_eq_getElem hi)
      obtain ⟨r', y, h3, h4⟩ := hrow i h1
      rw [h2] at h3; cases h3
      exact ⟨(cells_of h2).1, n, y, h4⟩
    refine ⟨some a, cap, rows, by rw [hrl], by omega, hcm, ⟨?_, ?_⟩, hmem⟩
    · have : ∀ l : List (List Value), (∀ r ∈ l, r.length = sz) → l.flatten.length = l.length * sz := by
        intro l
        induction l with
        | nil => simp
        | cons r l ih => intro h; rw [List.flatten_cons, List.length_append, h r (by simp), ih (fun x hx => h x (by simp [hx])), List.length_cons, Nat.succ_mul]; omega
      exact this rows fun r hr => (hmem r hr).1
    · by_cases hl0 : len = 0
      · exact .inl (by omega)
      · refine .inr ?_
        obtain ⟨r0, y0, h1, _⟩ := hrow 0 (by omega)
        have h2 := (cells_of h1).2 0 h0
        have hr0 : 0 < r0.length := by rw [(cells_of h1).1]; exact h0
        rw [List.getElem?_eq_getElem hr0] at h2
        obtain ⟨l, tt, fz, hb, hc, hsp⟩ := cell_block h2
        have ea : (a.add (0 * sz)).add 0 = a := by simp [Addr.add]
        rw [ea] at hb hc hsp
        have eA : a = ⟨a.block, a.off, none⟩ := by cases a; simp_all
        refine ⟨a.block, a.off, l, tt, fz, by rw [← eA], hb, fun j v hv => ?_⟩
        obtain ⟨k, r, i, h3, h4, rfl⟩ := flat_at (fun r hr => (hmem r hr).1) hv
        obtain ⟨h5, h6⟩ := hri k r h3
        have hi : i < sz := by rw [← (cells_of h6).1]; exact (List.getElem?_eq_some_iff.1 h4).1
        have h7 := (cells_of h6).2 i hi
        rw [h4] at h7
        have e2 : (a.add (k * sz)).add i = ⟨a.block, a.off + (k * sz + i), none⟩ := by
          rw [eA, add_at, add_at, Nat.add_assoc]
        rw [e2] at h7
        simp only [World.cell?, hb] at h7
        simpa using h7
theorem Rd.list {t e : TypeId} {sz : Nat} {cs : List Value} {α : Type} {g : α → List Value} {Q : α → Prop} (he : ∀ r, Rd enc P W e r → ∃ x, r = g x ∧ Q x) (h : Rd enc P W t cs) (ht : P.underlying t = some (.slice e)) (hs : P.cellsOf e = sz) (h0 : 0 < sz) :
    ∃ (a : Option Addr) (c : Nat) (xs : List α), cs = [.slice a xs.length c] ∧ xs.length ≤ c ∧ c ≤ maxLen ∧ SlM (all0 W) a xs.length sz (xs.flatMap g) ∧ ∀ x ∈ xs, Q x := by
  obtain ⟨a, c, rows, h1, h2, h3, h4, h5⟩ := h.slice ht hs h0
  have key : ∀ rows : List (List Value), (∀ r ∈ rows, r.length = sz ∧ Rd enc P W e r) → ∃ xs : List α, rows = xs.map g ∧ ∀ x ∈ xs, Q x := by
    intro rows
    induction rows with
    | nil => exact fun _ => ⟨[], rfl, by simp⟩
    | cons r rows ih =>
      intro h
      obtain ⟨xs, e1, e2⟩ := ih fun x hx => h x (by simp [hx])
      obtain ⟨x, e3, e4⟩ := he r (h r (by simp)).2
      refine ⟨x :: xs, by rw [List.map_cons, ← e1, ← e3], fun y hy => ?_⟩
      rcases List.mem_cons.1 hy with rfl | hy
      · exact e4
      · exact e2 y hy
  obtain ⟨xs, e1, e2⟩ := key rows h5
  have el : rows.length = xs.length := by rw [e1, List.length_map]
  rw [el] at h1 h2 h4
  refine ⟨a, c, xs, h1, h2, h3, ?_, e2⟩
  rw [List.flatMap_def, ← e1]; exact h4
theorem Rd.int {t : TypeId} {k : IntKind} {cs : List Value} (h : Rd enc P W t cs) (ht : P.underlying t = some (.int k)) : ∃ n, cs = [.int k n] ∧ (Lit.int k n).wf = true := by
  obtain ⟨n, x, h⟩ := h
  obtain ⟨v, h1, _, h2⟩ := DataW.trod_int ht h
  exact ⟨v, h1, h2⟩
theorem Rd.bool {t : TypeId} {cs : List Value} (h : Rd enc P W t cs) (ht : P.underlying t = some .bool) : ∃ b, cs = [.bool b] := by
  obtain ⟨n, x, h⟩ := h
  obtain ⟨v, h1, _⟩ := DataW.trod_bool ht h
  exact ⟨v, h1⟩
theorem Rd.fields {t : TypeId} {fs : Array Field} {cs : List Value} (h : Rd enc P W t cs) (ht : P.underlying t = some (.struct fs)) : cs.length = P.cellsOf t ∧ ∀ (i : Nat) (f : Field), fs[i]? = some f → Rd enc P W f.type ((cs.drop f.offset).take (P.cellsOf f.type)) := by
  obtain ⟨n, x, h⟩ := h
  obtain ⟨xs, m, _, _, h1, h2, h3⟩ := DataW.trod_struct ht h
  refine ⟨h1, fun i f hf => ?_⟩
  have := h3 i f hf
  have hi : i < xs.length := by rw [h2]; exact (Array.getElem?_eq_some_iff.1 hf).1
  rw [List.getElem?_eq_getElem hi] at this
  exact ⟨m, _, this⟩
theorem args_again (K : Kids P (· < P.types.size)) (hz : ∀ t e, t < P.types.size → P.underlying t = some (.slice e) → 0 < P.cellsOf e) {W' : World} {ts : List TypeId} {vs : List Value} {ds : List (DataW H)} {ps : List MemPlace} (hT : ∀ t ∈ ts, t < P.types.size)
    (h : DataW.TrodAll enc P W 0 (fun _ => true) true ts vs ds ps) (hk : Kept W W') (sp : Nat → Bool) (hs : ∀ p ∈ ps, sp p.block = true) : DataW.TrodAll enc P W' 0 sp true ts vs ds ps :=
  DataW.TrodAll.respare K hz hT (trodAll_kept hk h) hs
theorem trodAll_rd : ∀ {ts : List TypeId} {vs : List Value} {ds : List (DataW H)} {ps : List MemPlace}, DataW.TrodAll enc P W 0 (fun _ => true) true ts vs ds ps → vs.length = ts.length ∧ ds.length = ts.length ∧ ∀ (i : Nat) (t : TypeId) (v : Value), ts[i]? = some t → vs[i]? = some v → Rd enc P W t v.cells.toList
  | [], [], [], _, _ => ⟨rfl, rfl, fun i t v h => by simp at h⟩
  | t :: ts, v :: vs, d :: ds, ps, ⟨p, q, ⟨n, h1⟩, h2, _⟩ => by
    obtain ⟨e1, e2, e3⟩ := trodAll_rd h2
    refine ⟨by simp [e1], by simp [e2], fun i t' v' h h' => ?_⟩
    cases i with
    | zero => simp at h h'; subst h h'; exact ⟨n, _, h1⟩
    | succ i => exact e3 i t' v' (by simpa using h) (by simpa using h')
structure Arg (enc : TypeId × Value → H) (P : Program) (W : World) (t : TypeId) (v : Value) : Prop where
  rd : Rd enc P W t v.cells.toList
  ok : ∃ base, Value.okWide P W .any base t v
theorem Arg.int {t : TypeId} {k : IntKind} {v : Value} (h : Arg enc P W t v) (ht : P.underlying t = some (.int k)) : ∃ n, v = .int k n ∧ (Lit.int k n).wf = true := by
  obtain ⟨r, _, o⟩ := h
  obtain ⟨n, rfl⟩ := okWide_int ht o
  obtain ⟨m, h1, h2⟩ := r.int ht
  simp [Value.cells] at h1
  subst h1
  exact ⟨n, rfl, h2⟩
theorem Arg.bool {t : TypeId} {v : Value} (h : Arg enc P W t v) (ht : P.underlying t = some .bool) : ∃ b, v = .bool b := by
  obtain ⟨r, _, o⟩ := h
  exact okWide_bool ht o
theorem Arg.list {t e : TypeId} {sz : Nat} {v : Value} {α : Type} {g : α → List Value} {Q : α → Prop} (h : Arg enc P W t v) (he : ∀ r, Rd enc P W e r → ∃ x, r = g x ∧ Q x) (ht : P.underlying t = some (.slice e)) (hs : P.cellsOf e = sz) (h0 : 0 < sz) :
    ∃ (a : Option Addr) (c : Nat) (xs : List α), v = .slice a xs.length c ∧ xs.length ≤ c ∧ c ≤ 9223372036854775807 ∧ SlM (all0 W) a xs.length sz (xs.flatMap g) ∧ ∀ x ∈ xs, Q x := by
  obtain ⟨r, _, o⟩ := h
  obtain ⟨a, l, c, rfl⟩ := okWide_slice ht o
  obtain ⟨a', c', xs, h1, h2, h3, h4, h5⟩ := r.list he ht hs h0
  simp [Value.cells] at h1
  obtain ⟨rfl, rfl, rfl⟩ := h1
  exact ⟨_, _, xs, rfl, h2, h3, h4, h5⟩
theorem row_post {f : FuncId} {F : Func} {s : ChangeSpec} {tb : TypeId} {args : Array Value} {ds gs : List (DataW H)} {before : List MemPlace} {handsOn again : Bool} (K : Kids P (· < P.types.size)) (hz : ∀ t e, t < P.types.size → P.underlying t = some (.slice e) → 0 < P.cellsOf e)
    (hT : (F.params.toList.all fun t => decide (t < P.types.size)) = true) (hvs : s.vars = []) (hfn : ∀ ds : List (DataW H), ds.length = F.params.toList.length → s.fn H ds = { results := [.lit (.bool true)], args := ds }) (hrt : F.resultTypes = #[tb]) (htb : P.underlying tb = some .bool)
    {base : Nat} (hval : ∀ (j : Nat) t v, F.params[j]? = some t → args[j]? = some v → Value.okWide P W .any base t v)
    (hW : DataW.Whole enc P F.params.toList s.vars false W args.toList ds gs before)
    (hw : (∀ (i : Nat) (t : TypeId) (v : Value), F.params.toList[i]? = some t → args.toList[i]? = some v → Arg enc P W t v) → args.toList.length = F.params.toList.length → CallsS P f args.toList [roM (all0 W)] (fun v _ => v = .bool true)) :
    Calls P f args W fun e W' => ∃ v, e = .returned v ∧ s.post enc P F false true handsOn again W args v W' := by
  have hW' := hW
  obtain ⟨p, q, hA, hV, rfl, hfz, hnd⟩ := hW
  rw [hvs] at hV
  obtain ⟨rfl, rfl⟩ : gs = [] ∧ q = [] := by
    cases gs with
    | nil => exact ⟨rfl, hV⟩
    | cons g gs => exact hV.elim
  obtain ⟨h1, h2, h3⟩ := trodAll_rd hA
  have hc := (hw (fun i t v e1 e2 => ⟨h3 i t v e1 e2, base, hval i t v (by simpa using e1) (by simpa using e2)⟩) h1).kept
  refine hc.mono fun e W' ⟨he, hk⟩ => ?_
  subst he
  have hf := hfn ds h2
  refine ⟨_, rfl, post_kept (pa := p) (pv := []) hW' (fun b sp hd => ?_) (fun sp hsp => ?_) (fun sp _ => ?_) rfl hk ?_⟩
  · rw [hrt, List.append_nil, hf]
    exact trodAll_cons_mk (shut_bool htb _) trodAll_mk0
  · rw [List.append_nil, hf]
    exact args_again K hz (fun t ht => of_decide_eq_true (List.all_eq_true.1 hT t ht)) hA hk sp (fun x hx => hsp x (by simp [hx]))
  · rw [hvs, List.append_nil, hf]; rfl
  · exact ok_one hrt rfl (okWide_bool_mk htb _)
end
end Go.SX
namespace Go.Proofs.YtiampehfpgcogaaDoor
open Go Go.SX Go.ChangeShapes Go.WideShapes Go.ChangeAt Go.RowKit
theorem own : ownKnob Tryd.prog.godebug = none := by kernel_rfl
theorem Rd.i32 {H : Type} {enc : TypeId × Value → H} {W : World} {cs : List Value} (h : Rd enc Tryd.prog W 21 cs) : ∃ z, cs = cI z ∧ True := by
  obtain ⟨z, hz, _⟩ := Rd.int h Tryd.underlying21
  exact ⟨z, hz, trivial⟩
theorem u64_wf {n : Int} (h : (Lit.int .u64 n).wf = true) : 0 ≤ n ∧ n ≤ 18446744073709551615 := by
  have := (Lit.wf_int_iff .u64 n).1 h
  have e1 : IntKind.u64.min = 0 := by decide
  have e2 : IntKind.u64.max = 18446744073709551615 := by decide
  rw [e1, e2] at this; exact this
theorem Rd.u64 {H : Type} {enc : TypeId × Value → H} {W : World} {cs : List Value} (h : Rd enc Tryd.prog W 30 cs) : ∃ z, cs = cU z ∧ (0 ≤ z ∧ z ≤ 18446744073709551615) := by
  obtain ⟨z, hz, hw⟩ := Rd.int h Tryd.underlying30
  exact ⟨z, hz, u64_wf hw⟩
theorem Rd.vec {H : Type} {enc : TypeId × Value → H} {W : World} {cs : List Value} (h : Rd enc Tryd.prog W 33 cs) : ∃ (a : Option Addr) (c : Nat) (xs : List Int), cs = [.slice a xs.length c] ∧ xs.length ≤ c ∧ xs.length ≤ 9223372036854775807 ∧ SlM (all0 W) a xs.length 1 (xs.map I32) := by
  obtain ⟨a, c, ls, h1, h1c, h1m, h1s, h1q⟩ := Rd.list (fun r hr => Rd.i32 hr) h (sz := 1) Tryd.underlying33 (by kernel_rfl) (by decide)
  have hmx : maxLen = 9223372036854775807 := by decide
  rw [hmx] at h1m
  have hmm : ls.length ≤ 9223372036854775807 := Nat.le_trans h1c h1m
  rw [flat_I] at h1s
  exact ⟨a, c, ls, h1, h1c, hmm, h1s⟩
set_option maxRecDepth 100000 in
theorem Rd.op {H : Type} {enc : TypeId × Value → H} {W : World} {cs : List Value} (h : Rd enc Tryd.prog W 57 cs) : ∃ o : OV, cs = o.cells ∧ (SlM (all0 W) o.a o.vec.length 1 (o.vec.map I32) ∧ o.vec.length ≤ o.c ∧ o.vec.length ≤ 9223372036854775807 ∧ 0 ≤ o.id ∧ o.id ≤ 18446744073709551615) := by
  obtain ⟨hl, hf⟩ := h.fields Tryd.underlying57
  obtain ⟨x, h0, hx⟩ := Rd.u64 (hf 0 _ rfl)
  obtain ⟨a, c, xs, h1, h2, h3, h4⟩ := Rd.vec (hf 1 _ rfl)
  have hl' : cs.length = 2 := hl.trans (by kernel_rfl)
  match cs, hl' with
  | [u, v], _ =>
    have h0' : [u] = [Value.int .u64 x] := h0
    have h1' : [v] = [Value.slice a xs.length c] := h1
    simp only [List.cons.injEq, and_true] at h0' h1'
    subst h0' h1'
    exact ⟨⟨x, a, c, xs⟩, rfl, h4, h2, h3, hx⟩
end Go.Proofs.YtiampehfpgcogaaDoor
namespace Go.Proofs.YtiampehfpgcogaaDoor
open Go Go.SX Go.ChangeShapes Go.WideShapes Go.ChangeAt Go.RowKit
def QOps (W : World) (a : Option Addr) (ops : List OV) : Prop := (SlM (all0 W) a ops.length 2 (ops.flatMap OV.cells) ∧ okR (all0 W) ops) ∧ (∀ u ∈ ops, u.vec.length ≤ u.c) ∧ ops.length ≤ 9223372036854775807
theorem Rd.u8 {H : Type} {enc : TypeId × Value → H} {W : World} {cs : List Value} (h : Rd enc Tryd.prog W 5 cs) : ∃ z, cs = [Value.int .u8 z] := by
  obtain ⟨z, hz, _⟩ := Rd.int h Tryd.underlying5
  exact ⟨z, hz⟩
theorem Rd.ops {H : Type} {enc : TypeId × Value → H} {W : World} {cs : List Value} (h : Rd enc Tryd.prog W 32 cs) : ∃ (a : Option Addr) (c : Nat) (ops : List OV), cs = [.slice a ops.length c] ∧ QOps W a ops := by
  obtain ⟨a, c, ls, h1, h1c, h1m, h1s, h1q⟩ := Rd.list (fun r hr => Rd.op hr) h (sz := 2) Tryd.underlying32 (by kernel_rfl) (by decide)
  have hmx : maxLen = 9223372036854775807 := by decide
  rw [hmx] at h1m
  exact ⟨a, c, ls, h1, ⟨h1s, fun u hu => (h1q u hu).1⟩, fun u hu => (h1q u hu).2.1, Nat.le_trans h1c h1m⟩
end Go.Proofs.YtiampehfpgcogaaDoor
namespace Go.Proofs.YtiampehfpgcogaaDoor
open Go Go.SX Go.ChangeShapes Go.WideShapes Go.ChangeAt Go.RowKit
theorem u8_wf {n : Int} (h : (Lit.int .u8 n).wf = true) : 0 ≤ n ∧ n ≤ 255 := bounds_u8 h
theorem Rd.u8b {H : Type} {enc : TypeId × Value → H} {W : World} {cs : List Value} (h : Rd enc Tryd.prog W 5 cs) : ∃ z, cs = [Value.int .u8 z] ∧ (0 ≤ z ∧ z ≤ 255) := by
  obtain ⟨z, hz, hw⟩ := Rd.int h Tryd.underlying5
  exact ⟨z, hz, u8_wf hw⟩
theorem Rd.i64 {H : Type} {enc : TypeId × Value → H} {W : World} {cs : List Value} (h : Rd enc Tryd.prog W 3 cs) : ∃ z, cs = [I64 z] ∧ True := by
  obtain ⟨z, hz, hw⟩ := Rd.int h Tryd.underlying3
  exact ⟨z, hz, trivial⟩
set_option maxRecDepth 100000 in
theorem Rd.hit {H : Type} {enc : TypeId × Value → H} {W : World} {cs : List Value} (h : Rd enc Tryd.prog W 85 cs) : ∃ o : HV, cs = o.cells ∧ (SlM (all0 W) o.a o.vec.length 1 (o.vec.map I32) ∧ o.vec.length ≤ o.c) := by
  obtain ⟨hl, hf⟩ := h.fields Tryd.underlying85
  obtain ⟨x, h0, hx⟩ := Rd.u64 (hf 0 _ rfl)
  obtain ⟨y, h1, hy⟩ := Rd.u64 (hf 1 _ rfl)
  obtain ⟨a, c, xs, h2, h3, h4, h5⟩ := Rd.vec (hf 2 _ rfl)
  have hl' : cs.length = 3 := hl.trans (by kernel_rfl)
  match cs, hl' with
  | [u, v, w], _ =>
    have h0' : [u] = [Value.int .u64 x] := h0
    have h1' : [v] = [Value.int .u64 y] := h1
    have h2' : [w] = [Value.slice a xs.length c] := h2
    simp only [List.cons.injEq, and_true] at h0' h1' h2'
    subst h0' h1' h2'
    exact ⟨⟨x, y, a, c, xs⟩, rfl, h5, h3⟩
theorem Rd.hits {H : Type} {enc : TypeId × Value → H} {W : World} {cs : List Value} (h : Rd enc Tryd.prog W 34 cs) : ∃ (a : Option Addr) (c : Nat) (hs : List HV), cs = [.slice a hs.length c] ∧ SlM (all0 W) a hs.length 3 (hs.flatMap HV.cells) ∧ hs.length ≤ 9223372036854775807 ∧ ∀ x ∈ hs, SlM (all0 W) x.a x.vec.length 1 (x.vec.map I32) ∧ x.vec.length ≤ x.c := by
  obtain ⟨a, c, ls, h1, h1c, h1m, h1s, h1q⟩ := Rd.list (fun r hr => Rd.hit hr) h (sz := 3) Tryd.underlying34 (by kernel_rfl) (by decide)
  have hmx : maxLen = 9223372036854775807 := by decide
  rw [hmx] at h1m
  exact ⟨a, c, ls, h1, h1s, Nat.le_trans h1c h1m, h1q⟩
end Go.Proofs.YtiampehfpgcogaaDoor
namespace Go.Proofs.YtiampehfpgcogaaDoor
open Go Go.SX Go.ChangeShapes Go.WideShapes Go.ChangeAt Go.RowKit
abbrev sortD {H : Type} (p : ST) : DataW H := .agg [.lit (.string p.1), .lit (.int .i64 (p.2 : Int))]
theorem laid_is {H : Type} : (Rows.laid_armillary_note_sorts : DataW H) = .agg (sortsT.map sortD) := by kernel_rfl
theorem flat_of {α : Type} {g : α → List Value} {sz : Nat} (hg : ∀ x, (g x).length = sz) (h0 : 0 < sz) {l : List α} {cs : List Value} (hl : cs.length = l.length * sz) (h : ∀ i x, l[i]? = some x → (cs.drop (i * sz)).take sz = g x) : cs = l.flatMap g := by
  have hlen : (l.flatMap g).length = l.length * sz := by
    clear hl h
    induction l with
    | nil => simp
    | cons y l ih => rw [List.flatMap_cons, List.length_append, ih, hg, List.length_cons, Nat.succ_mul, Nat.add_comm]
  apply List.ext_getElem?
  intro k
  by_cases hk : k < l.length * sz
  · have hi : k / sz < l.length := (Nat.div_lt_iff_lt_mul h0).2 hk
    have hr : k % sz < sz := Nat.mod_lt _ h0
    have e : k = k / sz * sz + k % sz := by rw [Nat.mul_comm]; exact (Nat.div_add_mod k sz).symm
    obtain ⟨x, hx⟩ := mem_get hi
    have h1 := h _ x hx
    have h2 : (g x)[k % sz]? = cs[k]? := by
      rw [← h1, List.getElem?_take_of_lt hr, List.getElem?_drop, ← e]
    have h3 : k % sz < (g x).length := by rw [hg]; exact hr
    have h4 := flat_get hg l (k / sz) (k % sz) x _ hx (List.getElem?_eq_getElem h3)
    rw [← e] at h4
    rw [h4, ← h2, List.getElem?_eq_getElem h3]
  · rw [List.getElem?_eq_none (by omega), List.getElem?_eq_none (by omega)]
theorem gSorts : Tryd.prog.globalNamed "armillary/note.sorts" = some 0 := by kernel_rfl
theorem gSortsT : (Tryd.prog.globals[0]?).map (·.type) = some 107 := by kernel_rfl
theorem cellsS : Tryd.prog.cellsOf 87 = 2 := by kernel_rfl
theorem cellsSA : Tryd.prog.cellsOf 107 = 46 := by kernel_rfl
theorem cellsStr : Tryd.prog.cellsOf 9 = 1 := by kernel_rfl
theorem cellsInt : Tryd.prog.cellsOf 3 = 1 := by kernel_rfl
theorem sort_cells {W : World} {fuel : Nat} {cs : List Value} {p : ST} {q : List MemPlace} (h : DataW.trod (fun _ => ()) Tryd.prog W 0 (fun _ => true) false fuel 87 cs = some (sortD p, q)) : cs = ST.cells p := by
  obtain ⟨y0, y1, n, e, hl, h0, h1⟩ := trod_struct2 Tryd.underlying87 h
  rw [cellsS] at hl
  dsimp only at h0 h1
  rw [cellsStr] at h0
  rw [cellsInt] at h1
  have e' := congrArg Prod.fst e
  simp only [DataW.agg.injEq, List.cons.injEq, and_true] at e'
  obtain ⟨s, hs, hy0, _⟩ := DataW.trod_string Tryd.underlying9 h0
  obtain ⟨z, hz, hy1, _⟩ := DataW.trod_int Tryd.underlying3 h1
  subst hy0 hy1
  simp only [DataW.lit.injEq, Lit.string.injEq, Lit.int.injEq, true_and] at e'
  match cs, hl with
  | [u, v], _ =>
    have hs' : [u] = [Value.string s] := hs
    have hz' : [v] = [Value.int .i64 z] := hz
    simp only [List.cons.injEq, and_true] at hs' hz'
    subst hs' hz'
    have : str p.1 = Value.string s := by
      unfold str
      rw [e'.1]
    rw [← e'.2, ← this]
theorem tab_of_laid {W : World} (h : laidMet Tryd.prog [("armillary/note.sorts", Rows.laid_armillary_note_sorts)] W) : TabM (all0 W) := by
  obtain ⟨ps, ⟨g', t', cs, fuel, p, q, hg', ht', hvar, hd, _, _⟩, _⟩ := h
  obtain rfl := Option.some.inj (gSorts.symm.trans hg')
  obtain rfl := Option.some.inj (gSortsT.symm.trans ht')
  rw [laid_is] at hd
  obtain ⟨xs, m, _, e, hl, hxl, hx⟩ := DataW.trod_array Tryd.underlying107 hd
  rw [cellsSA] at hl
  have e1 := congrArg Prod.fst e
  simp only [DataW.agg.injEq] at e1
  have hcs : cs.toList = sortsC := by
    refine flat_of (g := ST.cells) (sz := 2) (fun _ => rfl) (by decide) (hl.trans (by decide)) (fun i x hi => ?_)
    have hi' : i < 23 := (List.getElem?_eq_some_iff.1 hi).1
    have h1 := hx i hi'
    rw [cellsS] at h1
    obtain ⟨y, hy⟩ := mem_get (l := xs) (by rw [hxl]; exact hi')
    rw [hy] at h1
    have h2 : (xs.map (·.1))[i]? = some y.1 := by rw [List.getElem?_map, hy]; rfl
    rw [← e1, List.getElem?_map, hi] at h2
    have h3 := Option.some.inj h2
    exact sort_cells (p := x) (q := y.2) (by rw [h1, show sortD x = y.1 from h3])
  unfold World.var? at hvar
  rw [gSorts] at hvar
  simp only [Option.bind_some] at hvar
  refine ⟨by decide, .inr ⟨0, 0, ?_⟩⟩
  cases hb : W.heap[0]? with
  | none => rw [hb] at hvar; cases hvar
  | some o =>
    rw [hb] at hvar
    cases o with
    | cells l t fz =>
      dsimp only at hvar
      cases hvar
      refine ⟨cs, t, fz, rfl, hb, fun j v hv => ?_⟩
      rw [← hcs] at hv
      rw [Nat.zero_add]
      simpa using hv
    | _ => cases hvar
end Go.Proofs.YtiampehfpgcogaaDoor
namespace Go.Proofs.YtiampehfpgcogaaDoor
open Go Go.SX
attribute [local irreducible] swp opsS thenS blockS retS CallsS St Ent YieldS anyS drawS
structure TR where
  txn : Int
  batch : Int
  stamp : Int
  after : Int
  who : Int
  parts : List Int
  yes : List Int
  acked : List Int
  ops : VL
structure TV where
  txn : Int
  batch : Int
  stamp : Int
  after : Int
  who : Int
  pa : Option Addr
  pc : Nat
  parts : List Int
  ya : Option Addr
  yc : Nat
  yes : List Int
  ka : Option Addr
  kc : Nat
  acked : List Int
  oa : Option Addr
  oc : Nat
  ops : List OV
abbrev TV.abs (t : TV) : TR := ⟨t.txn, t.batch, t.stamp, t.after, t.who, t.parts, t.yes, t.acked, t.ops.map OV.abs⟩
abbrev TV.cells (t : TV) : List Value := [.int .u64 t.txn, .int .u64 t.batch, .int .u64 t.stamp, .int .u64 t.after, .int .i64 t.who, .slice t.pa t.parts.length t.pc, .slice t.ya t.yes.length t.yc, .slice t.ka t.acked.length t.kc, .slice t.oa t.ops.length t.oc]
structure JG where
  shards : Int
  dim : Int
  epoch : Int
  seq : Int
  last : Int
  tr : List (Int × TR)
  done : List (Int × Int)
structure okT (M : Nat → Option Obj) (t : TV) : Prop where
  p : SlM M t.pa t.parts.length 1 (t.parts.map I64)
  y : SlM M t.ya t.yes.length 1 (t.yes.map I64)
  k : SlM M t.ka t.acked.length 1 (t.acked.map I64)
  o : SlM M t.oa t.ops.length 2 (t.ops.flatMap OV.cells)
  ov : okR M t.ops
  pl : t.parts.length ≤ 1000000
  yl : t.yes.length ≤ 1000000
  kl : t.acked.length ≤ 1000000
  ol : t.ops.length ≤ 1000000
theorem okT.mono {M M' : Nat → Option Obj} {t : TV} (h : okT M t) (hl : leM M M') : okT M' t := ⟨h.p.mono hl, h.y.mono hl, h.k.mono hl, h.o.mono hl, fun o ho => (h.ov o ho).mono hl, h.pl, h.yl, h.kl, h.ol⟩
abbrev TB := Int × Nat × TV
abbrev ptT (t : Nat × TV) : Value := .pointer (some ⟨t.1, 0, none⟩)
abbrev oneT (t : Nat × TV) : HP := pt t.1 (cl t.2.cells 76)
def trsH (ts : List TB) : HP := allH (ts.map fun u => oneT u.2)
structure GQ' (M : Nat → Option Obj) (j : JG) (ts : List TB) : Prop where
  s1 : 1 ≤ j.shards
  s2 : j.shards ≤ 4
  tr : ts.map (fun u => (u.1, u.2.2.abs)) = j.tr
  ok : ∀ u ∈ ts, okT M u.2.2
theorem GQ'.mono {M M' : Nat → Option Obj} {j : JG} {ts : List TB} (h : GQ' M j ts) (hl : leM M M') : GQ' M' j ts := ⟨h.s1, h.s2, h.tr, fun u hu => (h.ok u hu).mono hl⟩
abbrev gP (p : Nat) (j : JG) (mt md : Nat) : HP := pt p (cl [.int .i64 j.shards, .int .i64 j.dim, .int .u64 j.epoch, .int .u64 j.seq, .int .u64 j.last, .map (some mt), .map (some md)] 65)
abbrev gT (mt : Nat) (ts : List TB) : HP := mpO U64 ptT mt ts
abbrev gD (md : Nat) (d : List (Int × Int)) : HP := mpO U64 U64 md d
structure GX where
  mt : Nat
  md : Nat
  ts : List TB
def jdgH (M : Nat → Option Obj) (p : Nat) (j : JG) : HP := exH fun x : GX => allH [pureH (GQ' M j x.ts), gP p j x.mt x.md, gT x.mt x.ts, trsH x.ts, gD x.md j.done]
theorem jdg_shut {p mt md : Nat} {M : Nat → Option Obj} {j : JG} {ts : List TB} {L : List HP} (h : GQ' M j ts) : Ent (gP p j mt md :: gT mt ts :: trsH ts :: gD md j.done :: L) (jdgH M p j :: L) :=
  Ent.trans (Ent.shut_pure h) (Ent.trans (Ent.shut_all (L := [_, _, _, _, _])) (Ent.shut_ex (P := fun x : GX => allH [pureH (GQ' M j x.ts), gP p j x.mt x.md, gT x.mt x.ts, trsH x.ts, gD x.md j.done]) ⟨mt, md, ts⟩))
theorem jdg_open {p : Nat} {M : Nat → Option Obj} {j : JG} {L L' : List HP} (h : ∀ mt md ts, GQ' M j ts → Ent (gP p j mt md :: gT mt ts :: trsH ts :: gD md j.done :: L) L') : Ent (jdgH M p j :: L) L' :=
  Ent.ex fun x => Ent.open_all.trans (Ent.pure fun hx => h x.mt x.md x.ts hx)
theorem jdg_mono {p : Nat} {M M' : Nat → Option Obj} {j : JG} {L : List HP} (hl : leM M M') : Ent (jdgH M p j :: L) (jdgH M' p j :: L) := jdg_open fun _ _ _ hq => jdg_shut (hq.mono hl)
theorem calls_jdg {g : FuncId} {args : List Value} {R : Value → List HP → Prop} {p : Nat} {M : Nat → Option Obj} {j : JG} {L : List HP}
    (h : ∀ mt md ts, GQ' M j ts → CallsS Tryd.prog g args (gP p j mt md :: gT mt ts :: trsH ts :: gD md j.done :: L) R) : CallsS Tryd.prog g args (jdgH M p j :: L) R :=
  CallsS.ex fun x => CallsS.all (CallsS.pure fun hx => h x.mt x.md x.ts hx)
class PickG (p : Nat) (L : List HP) (M : outParam (Nat → Option Obj)) (j : outParam JG) (L0 : outParam (List HP)) : Prop where
  ent : Ent L (jdgH M p j :: L0)
instance PickG.here {p : Nat} {M : Nat → Option Obj} {L : List HP} {j : JG} : PickG p (jdgH M p j :: L) M j L := ⟨Ent.refl _⟩
instance (priority := low) PickG.there {p : Nat} {M : Nat → Option Obj} {A : HP} {L L0 : List HP} {j : JG} [h : PickG p L M j L0] : PickG p (A :: L) M j (A :: L0) := ⟨(h.ent.cons).trans (Ent.perm (.swap _ _ _))⟩
section
variable {n : Nat} {ops rest : List Oper} {cd : Code} {Q : Post} {f : Env} {L L0 : List HP} {M : Nat → Option Obj} {j : JG}
theorem swp_jdg (p : Nat) [hp : PickG p L M j L0] (h : ∀ mt md ts, GQ' M j ts → swp Tryd.prog n cd Q f (gP p j mt md :: gT mt ts :: trsH ts :: gD md j.done :: L0)) : swp Tryd.prog n cd Q f L :=
  swp_ent hp.ent (swp_ex fun x => swp_all (swp_pure fun hx => h x.mt x.md x.ts hx))
theorem swp_gm (p : Nat) [hp : PickG p L M j L0] {M' : Nat → Option Obj} (hl : leM M M') (hk : swp Tryd.prog n cd Q f (jdgH M' p j :: L0)) : swp Tryd.prog n cd Q f L := swp_ent (hp.ent.trans (jdg_mono hl)) hk
theorem S.cg {d : Tmp} {ty : TypeId} {pos : String} {af : Array Edge} {g : FuncId} {xs : Array Operand} {ats : Array TypeId} {args : List Value} {R : Value → List HP → Prop} {M2 : Nat → Option Obj} {L1 : List HP} (p : Nat) [hp : PickG p L M j L0] [hm : PickM L0 M2 L1] [he : Enters Tryd.prog g]
    (hx : argsL f xs.toList = some args) (hc : CallsS Tryd.prog g args (jdgH M p j :: roM M2 :: L1) R) (hk : ∀ v L', R v L' → opsS Tryd.prog n ops rest Q (upd f d v) L') :
    opsS Tryd.prog n ops (⟨some d, .call ⟨.value (.func g), xs, ats⟩, ty, pos, af, none⟩ :: rest) Q f L := opsS_ent (hp.ent.trans (Ent.cons hm.ent)) (S.cr hx hc hk)
theorem S.cgn {d : Tmp} {ty : TypeId} {pos : String} {af : Array Edge} {g : FuncId} {xs : Array Operand} {ats : Array TypeId} {args : List Value} {R : Value → List HP → Prop} (p : Nat) [hp : PickG p L M j L0] [he : Enters Tryd.prog g]
    (hx : argsL f xs.toList = some args) (hc : CallsS Tryd.prog g args (jdgH M p j :: L0) R) (hk : ∀ v L', R v L' → opsS Tryd.prog n ops rest Q (upd f d v) L') :
    opsS Tryd.prog n ops (⟨some d, .call ⟨.value (.func g), xs, ats⟩, ty, pos, af, none⟩ :: rest) Q f L := opsS_ent hp.ent (S.cr hx hc hk)
end
theorem erase_perm {α : Type} : ∀ (l : List α) (k : Nat) (x : α), l[k]? = some x → l.Perm (x :: l.eraseIdx k)
  | [], k, x, h => by simp at h
  | a :: l, 0, x, h => by
    simp only [List.getElem?_cons_zero, Option.some.injEq] at h
    subst h
    exact List.Perm.refl _
  | a :: l, k + 1, x, h => by
    simp only [List.getElem?_cons_succ] at h
    exact ((erase_perm l k x h).cons a).trans (List.Perm.swap x a _)
theorem set_perm {α : Type} : ∀ (l : List α) (k : Nat) (x : α), k < l.length → (x :: l.eraseIdx k).Perm (l.set k x)
  | [], k, x, h => by simp at h
  | a :: l, 0, x, h => List.Perm.refl _
  | a :: l, k + 1, x, h => by
    simp only [List.length_cons] at h
    exact (List.Perm.swap a x _).trans ((set_perm l k x (by omega)).cons a)
theorem trs_out {ts : List TB} {k : Nat} {u : TB} (h : ts[k]? = some u) {L : List HP} : Ent (trsH ts :: L) (oneT u.2 :: trsH (ts.eraseIdx k) :: L) := by
  refine Ent.trans Ent.open_all (Ent.trans (Ent.perm ?_) (Ent.cons (Ent.shut_all (L := (ts.eraseIdx k).map fun u => oneT u.2))))
  exact ((erase_perm ts k u h).map fun u => oneT u.2).append_right L
theorem trs_in {ts : List TB} {k : Nat} (hk : k < ts.length) (u : TB) {L : List HP} : Ent (oneT u.2 :: trsH (ts.eraseIdx k) :: L) (trsH (ts.set k u) :: L) := by
  refine Ent.trans (Ent.cons Ent.open_all) (Ent.trans (Ent.perm ?_) (Ent.shut_all (L := (ts.set k u).map fun u => oneT u.2)))
  exact ((set_perm ts k u hk).map fun u => oneT u.2).append_right L
theorem trs_new (ts : List TB) (u : TB) {L : List HP} : Ent (oneT u.2 :: trsH ts :: L) (trsH (ts ++ [u]) :: L) := by
  refine Ent.trans (Ent.cons Ent.open_all) (Ent.trans (Ent.perm ?_) (Ent.shut_all (L := (ts ++ [u]).map fun u => oneT u.2)))
  have hp : (u :: ts).Perm (ts ++ [u]) := (List.perm_append_singleton u ts).symm
  exact (hp.map fun u => oneT u.2).append_right L
def homeV (s id : Int) : Int := ((IntKind.u64.wrap (id * 11400714819323198485)).fdiv (2 ^ 32)).tmod s
theorem wrap_u64_b (a : Int) : 0 ≤ IntKind.u64.wrap a ∧ IntKind.u64.wrap a < 18446744073709551616 := by
  have e : IntKind.u64.wrap a = a % 18446744073709551616 := by simp [IntKind.wrap, IntKind.bits, IntKind.signed]
  rw [e]; omega
theorem homeV_b {s : Int} (h : 1 ≤ s) (id : Int) : 0 ≤ homeV s id ∧ homeV s id < s := by
  unfold homeV
  have h1 := wrap_u64_b (id * 11400714819323198485)
  generalize IntKind.u64.wrap (id * 11400714819323198485) = w at h1
  have h2 : 0 ≤ w.fdiv (2 ^ 32) := Int.fdiv_nonneg h1.1 (by decide)
  exact ⟨Int.tmod_nonneg _ h2, Int.tmod_lt_of_pos _ (by omega)⟩
theorem Home_spec (id s : Int) (L : List HP) (h1 : 1 ≤ s) (h2 : s ≤ 4) :
    CallsS Tryd.prog 14 [.int .u64 id, .int .i64 s] L (fun r L' => r = .int .i64 (homeV s id) ∧ L' = L) := by
  refine CallsS.of_body Tryd.func14 rfl rfl rfl ?_
  refine Q.r ?_; (repeat (intro b1; refine Q.r ?_))
  refine S.y (Y.mul rfl rfl) ?_
  refine Q.r ?_; (repeat (intro b1; refine Q.r ?_))
  refine S.y (Y.shrI (b := 32) rfl rfl (by decide)) ?_
  refine Q.r ?_; (repeat (intro b1; refine Q.r ?_))
  refine S.y (Y.cvi rfl) ?_
  have es : IntKind.u64.wrap s = s := wrap_u64 (by omega) (by omega)
  rw [es]
  refine Q.r ?_; (repeat (intro b1; refine Q.r ?_))
  refine S.y (Y.rem rfl rfl (by omega)) ?_
  refine Q.r ?_; (repeat (intro b1; refine Q.r ?_))
  refine S.y (Y.cvi rfl) ?_
  have hb := homeV_b h1 id
  have eh : IntKind.i64.wrap (homeV s id) = homeV s id := wrap_i64 (by omega) (by omega)
  unfold homeV at eh
  rw [eh]
  refine Q.r ?_; (repeat (intro b1; refine Q.r ?_))
  exact N.r1 (RV.tmp rfl RV.nil) (Ent.refl _) ⟨rfl, rfl⟩
abbrev ptrG (p : Nat) : Value := .pointer (some ⟨p, 0, none⟩)
abbrev JG0 (shards dim : Int) : JG := ⟨shards, dim, 0, 0, 0, [], []⟩
theorem GNew_spec (M : Nat → Option Obj) (s dim : Int) (L : List HP) (s1 : 1 ≤ s) (s2 : s ≤ 4) (h1 : 1 ≤ dim) (h2 : dim ≤ 8) :
    CallsS Tryd.prog 6 [.int .i64 s, .int .i64 dim] L (fun r L' => ∃ p, r = .tuple #[ptrG p, .int .i64 0] ∧ L' = jdgH M p (JG0 s dim) :: L) := by
  refine CallsS.of_body Tryd.func6 rfl rfl rfl ?_
  refine Q.r ?_; (repeat (intro b1; refine Q.r ?_))
  refine S.mkm U64 ptT (fun mt => ?_)
  refine Q.r ?_; (repeat (intro b1; refine Q.r ?_))
  refine S.mkm U64 U64 (fun md => ?_)
  refine Q.r ?_; (repeat (intro b1; refine Q.r ?_))
  refine N.r2 (RV.tmp rfl (RV.tmp rfl RV.nil)) ?_ ⟨b1, rfl, rfl⟩
  refine Ent.trans (M := gP b1 (JG0 s dim) mt md :: gT mt [] :: gD md [] :: L) (by exact Go.SX.Ent.go) ?_
  refine Ent.trans ?_ (jdg_shut (p := b1) (mt := mt) (md := md) (j := JG0 s dim) (ts := []) ⟨s1, s2, rfl, fun u hu => by cases hu⟩)
  refine Ent.cons (Ent.cons ?_)
  exact Ent.trans (Ent.perm (List.Perm.refl _)) (Ent.shut_all (L := []))
theorem GDone_spec (M : Nat → Option Obj) (p : Nat) (j : JG) (t : Int) (L : List HP) :
    CallsS Tryd.prog 10 [ptrG p, .int .u64 t] (jdgH M p j :: L) (fun r L' => r = .tuple #[.int .u64 ((lkL j.done t).getD 0), .bool (lkL j.done t).isSome] ∧ L' = jdgH M p j :: L) := by
  refine calls_jdg fun mt md ts hq => ?_
  refine CallsS.of_body Tryd.func10 rfl rfl rfl ?_
  refine Q.r ?_; (repeat (intro b1; refine Q.r ?_))
  refine S.y (Y.lk true rfl rfl (fun w => Tryd.zeroValue30 w)) ?_
  cases hz : lkL j.done t with
  | none =>
    dsimp only
    refine Q.r ?_; (repeat (intro b1; refine Q.r ?_))
    exact N.r2 (RV.tmp rfl (RV.tmp rfl RV.nil)) (jdg_shut hq) ⟨rfl, rfl⟩
  | some s =>
    dsimp only
    refine Q.r ?_; (repeat (intro b1; refine Q.r ?_))
    exact N.r2 (RV.tmp rfl (RV.tmp rfl RV.nil)) (jdg_shut hq) ⟨rfl, rfl⟩
theorem Ghome_spec (p : Nat) (j : JG) (mt md : Nat) (id : Int) (L : List HP) (s1 : 1 ≤ j.shards) (s2 : j.shards ≤ 4) :
    CallsS Tryd.prog 48 [ptrG p, .int .u64 id] (gP p j mt md :: L) (fun r L' => r = .int .i64 (homeV j.shards id + 1) ∧ L' = gP p j mt md :: L) := by
  refine CallsS.of_body Tryd.func48 rfl rfl rfl ?_
  have hb := homeV_b s1 id
  refine Q.r ?_; (repeat (intro b1; refine Q.r ?_))
  refine S.cr rfl (Home_spec id j.shards _ s1 s2) ?_
  rintro _ _ ⟨rfl, rfl⟩
  refine Q.r ?_; (repeat (intro b1; refine Q.r ?_))
  exact N.r1 (RV.tmp rfl RV.nil) (Ent.refl _) ⟨congrArg (Value.int .i64) (Int.add_comm _ _), rfl⟩
abbrev decM (p txn stamp code : Int) : Int × NA := (p, { NA.zero with kind := 5, txn := txn, stamp := stamp, code := code })
abbrev repM (to batch stamp code : Int) : Int × NA := (to, { NA.zero with kind := 2, batch := batch, stamp := stamp, code := code })
abbrev goneN (txn : Int) : NA := { NA.zero with kind := 22, txn := txn }
theorem Greply_spec (to b s c : Int) (L : List HP) :
    CallsS Tryd.prog 35 [.int .i64 to, .int .u64 b, .int .u64 s, .int .i64 c] L (fun r L' => r = .agg (mailC (repM to b s c)).toArray ∧ L' = L) := by
  refine CallsS.of_body Tryd.func35 rfl rfl rfl ?_
  refine Q.r ?_; (repeat (intro b1; refine Q.r ?_))
  exact N.r1 (by apply RV.cellN; rfl; exact RdC.row; rfl; exact RV.nil) (Ent.drop (Ent.refl _)) ⟨rfl, rfl⟩
theorem Ggone_spec (t : Nat × TV) (L : List HP) :
    CallsS Tryd.prog 38 [ptT t] (oneT t :: L) (fun r L' => ∃ b, r = .slice (some ⟨b, 0, none⟩) 1 1 ∧ L' = slO 39 16 (some ⟨b, 0, none⟩) 1 1 (goneN t.2.txn).nv.cells :: oneT t :: L) := by
  refine CallsS.of_body Tryd.func38 rfl rfl rfl ?_
  refine Q.r ?_; (repeat (intro b1; refine Q.r ?_))
  refine N.r1 (RV.tmp rfl RV.nil) ?_ ⟨b1, rfl, rfl⟩
  refine Ent.trans ?_ (slO_fold rfl)
  exact Go.SX.Ent.go
theorem GlastOf_spec (t : Nat × TV) (a : Option Addr) (l c : Nat) (L : List HP) (hl : l ≤ 1000000) (h2 : t.2.parts.length ≤ 1000000) :
    CallsS Tryd.prog 40 [ptT t, .slice a l c] (oneT t :: L) (fun r L' => r = .bool (decide (l + 1 = t.2.parts.length)) ∧ L' = oneT t :: L) := by
  refine CallsS.of_body Tryd.func40 rfl rfl rfl ?_
  refine Q.r ?_; (repeat (intro b1; refine Q.r ?_))
  refine N.r1 (RV.tmp rfl RV.nil) (Ent.refl _) ⟨congrArg Value.bool ?_, rfl⟩
  rw [Bool.eq_iff_iff]
  simp only [decide_eq_true_eq]
  omega
theorem IndexP_spec (a : Option Addr) (c : Nat) (xs : List Int) (x : Int) (A : List HP) (h : RdS A a xs.length 1 (xs.map I64)) (hn : xs.length ≤ 1000000) :
    CallsS Tryd.prog 47 [.slice a xs.length c, .int .i64 x] A (fun r L' => ((∃ k : Nat, k < xs.length ∧ xs[k]? = some x ∧ r = .int .i64 k) ∨ (x ∉ xs ∧ r = .int .i64 (-1))) ∧ L' = A) := by
  refine CallsS.of_body Tryd.func47 rfl rfl rfl ?_
  refine Q.r ?_; (repeat (intro b1; refine Q.r ?_))
  refine swp_loop (σ := Nat) (fun k => [(0, .slice a xs.length c), (1, .int .i64 x), (7, .int .i64 xs.length), (8, .int .i64 k)])
    (fun _ => A) (fun k => k ≤ xs.length ∧ x ∉ xs.take k) (fun k => xs.length - k) 0 ⟨rfl, rfl, rfl, rfl, trivial⟩ (Ent.refl _) ⟨Nat.zero_le _, by simp⟩ ?_
  rintro k ⟨hk, hx⟩
  by_cases hlt : k < xs.length
  · obtain ⟨q, hq⟩ := mem_get hlt
    obtain ⟨b, oo, hia, hr⟩ := RdS.elem (g := fun z : Int => [I64 z]) (fun _ => rfl) (by rw [flat_I64]; exact h) hq rfl
    rw [hia]
    by_cases he : x = q
    · subst he
      refine Q.r ?_; (repeat (intro b1; refine Q.r ?_))
      exact N.r1 (RV.tmp rfl RV.nil) (Ent.refl _) ⟨.inl ⟨k, hlt, hq, rfl⟩, rfl⟩
    · refine Q.r ?_; (repeat (intro b1; refine Q.r ?_))
      refine ⟨k + 1, ⟨rfl, rfl, rfl, rfl, trivial⟩, Ent.refl _, ⟨by omega, ?_⟩, by omega⟩
      rw [take_snoc hq, List.mem_append, List.mem_singleton]
      exact fun h => h.elim hx he
  · have hke : k = xs.length := by omega
    subst hke
    rw [List.take_length] at hx
    refine Q.r ?_; (repeat (intro b1; refine Q.r ?_))
    exact N.r1 (RV.tmp rfl RV.nil) (Ent.refl _) ⟨.inr ⟨hx, rfl⟩, rfl⟩
theorem ContainsP_spec (a : Option Addr) (c : Nat) (xs : List Int) (x : Int) (A : List HP) (h : RdS A a xs.length 1 (xs.map I64)) (hn : xs.length ≤ 1000000) :
    CallsS Tryd.prog 29 [.slice a xs.length c, .int .i64 x] A (fun r L' => r = .bool (decide (x ∈ xs)) ∧ L' = A) := by
  refine CallsS.of_body Tryd.func29 rfl rfl rfl ?_
  refine Q.r ?_; (repeat (intro b1; refine Q.r ?_))
  refine S.cr rfl (IndexP_spec a c xs x _ h hn) ?_
  rintro _ _ ⟨⟨k, hk, hx, rfl⟩ | ⟨hx, rfl⟩, rfl⟩
  · have hm : x ∈ xs := List.mem_of_getElem? hx
    refine Q.r ?_; (repeat (intro b1; refine Q.r ?_))
    refine N.r1 (RV.tmp rfl RV.nil) (Ent.refl _) ⟨congrArg Value.bool ?_, rfl⟩
    rw [decide_eq_true hm]
    exact decide_eq_true (by omega)
  · refine Q.r ?_; (repeat (intro b1; refine Q.r ?_))
    refine N.r1 (RV.tmp rfl RV.nil) (Ent.refl _) ⟨congrArg Value.bool ?_, rfl⟩
    rw [decide_eq_false hx]
    rfl
theorem Gdecide_spec (txn stamp code : Int) (a : Option Addr) (c : Nat) (ps : List Int) (A : List HP) (h : RdS A a ps.length 1 (ps.map I64)) (hn : ps.length ≤ 1000000) :
    CallsS Tryd.prog 31 [.int .u64 txn, .int .u64 stamp, .int .i64 code, .slice a ps.length c] A (fun r L' => ∃ a' c', r = .slice a' ps.length c' ∧ L' = slO 49 17 a' ps.length c' ((ps.map fun p => decM p txn stamp code).flatMap mailC) :: A) := by
  refine CallsS.of_body Tryd.func31 rfl rfl rfl ?_
  refine Q.r ?_; (repeat (intro b1; refine Q.r ?_))
  refine swp_loop (σ := Nat × Option Addr × Nat × List (Int × NA)) (fun s => [(0, .int .u64 txn), (1, .int .u64 stamp), (2, .int .i64 code), (12, .slice a ps.length c), (13, .int .i64 ps.length), (9, .slice s.2.1 s.2.2.2.length s.2.2.1), (14, .int .i64 s.1)])
    (fun s => slO 49 17 s.2.1 s.2.2.2.length s.2.2.1 (s.2.2.2.flatMap mailC) :: A)
    (fun s => s.1 ≤ ps.length ∧ s.2.2.2 = (ps.take s.1).map fun p => decM p txn stamp code) (fun s => ps.length - s.1) (0, none, 0, []) ⟨rfl, rfl, rfl, rfl, rfl, rfl, rfl, trivial⟩ slO_nil ⟨by omega, by simp⟩ ?_
  rintro ⟨k, a3, c3, us⟩ ⟨hk, hus⟩
  dsimp only at hk hus ⊢
  have hul : us.length = k := by rw [hus, List.length_map, List.length_take]; omega
  by_cases hlt : k < ps.length
  · obtain ⟨q, hq⟩ := mem_get hlt
    have hrs : RdS (slO 49 17 a3 us.length c3 (us.flatMap mailC) :: A) a ps.length 1 (ps.flatMap fun z : Int => [I64 z]) := by rw [flat_I64]; exact h.sub
    obtain ⟨b, oo, hia, hr⟩ := RdS.elem (g := fun z : Int => [I64 z]) (fun _ => rfl) hrs hq rfl
    clear hrs
    rw [hia]
    refine Q.r ?_; (repeat (intro b1; refine Q.r ?_))
    refine S.app rfl rfl (SrcS.sl RdC.row (by rfl) (by rfl)) (by rfl) (by omega) (by omega) (fun a7 c7 => ?_)
    refine Q.r ?_; (repeat (intro b1; refine Q.r ?_))
    refine ⟨(k + 1, a7, c7, us ++ [decM q txn stamp code]), ⟨rfl, rfl, rfl, rfl, rfl, congrArg some (by simp), rfl, trivial⟩, ?_, ⟨by dsimp only; omega, ?_⟩, by dsimp only; omega⟩
    · dsimp only
      rw [len_snoc, flat_snoc]
      exact Go.SX.Ent.go
    · dsimp only
      rw [take_snoc hq, List.map_append, ← hus]
      rfl
  · have hke : k = ps.length := by omega
    subst hke
    rw [List.take_length] at hus
    subst hus
    refine Q.r ?_; (repeat (intro b1; refine Q.r ?_))
    rw [List.length_map]
    exact N.r1 (RV.tmp rfl RV.nil) (Ent.refl _) ⟨a3, c3, rfl, rfl⟩
abbrev toldM (t : TR) (stamp code : Int) : List (Int × NA) := (t.parts.map fun p => decM p t.txn stamp code) ++ [repM t.who t.batch stamp code]
theorem Gtold_spec (t : Nat × TV) (stamp code : Int) (M : Nat → Option Obj) (L : List HP) (ht : okT M t.2) :
    CallsS Tryd.prog 39 [ptT t, .int .u64 stamp, .int .i64 code] (oneT t :: roM M :: L) (fun r L' => ∃ a' c', r = .slice a' (t.2.parts.length + 1) c' ∧ L' = slO 49 17 a' (t.2.parts.length + 1) c' ((toldM t.2.abs stamp code).flatMap mailC) :: oneT t :: roM M :: L) := by
  refine CallsS.of_body Tryd.func39 rfl rfl rfl ?_
  have hpl := ht.pl
  refine Q.r ?_; (repeat (intro b1; refine Q.r ?_))
  refine Q.dgo [true] [12, 25, 26, 27] [] [0, 1, 2, 3, 4, 5, 6, 7, 8, 9, 10, 11, 13, 14, 15, 16, 17, 18, 19, 20, 21, 22, 23, 24, 12, 25, 26, 27, 28] ?_
  refine Q.rd ?_; (repeat (intro b1; refine Q.rd ?_))
  refine D.e rfl rfl rfl ?_
  refine S.cr rfl (Gdecide_spec t.2.txn stamp code t.2.pa t.2.pc t.2.parts _ ht.p.rd ht.pl) ?_
  rintro _ _ ⟨a1, c1, rfl, rfl⟩
  refine Q.r ?_; (repeat (intro b1; refine Q.r ?_))
  refine Q.rd ?_; (repeat (intro b1; refine Q.rd ?_))
  refine D.e rfl rfl rfl ?_
  refine S.cr rfl (Greply_spec t.2.who t.2.batch stamp code _) ?_
  rintro _ _ ⟨rfl, rfl⟩
  refine Q.r ?_; (repeat (intro b1; refine Q.r ?_))
  refine Q.rd ?_; (repeat (intro b1; refine Q.rd ?_))
  refine D.e rfl rfl rfl ?_
  refine S.app rfl rfl (SrcS.sl RdC.row (by rfl) (by rfl)) (by rfl) (by omega) (by omega) (fun a7 c7 => ?_)
  refine Q.r ?_; (repeat (intro b1; refine Q.r ?_))
  refine Q.rd ?_; (repeat (intro b1; refine Q.rd ?_))
  refine Q.r ?_; (repeat (intro b1; refine Q.r ?_))
  refine N.r1 (RV.tmp rfl RV.nil) ?_ ⟨a7, c7, rfl, rfl⟩
  unfold toldM
  rw [flat_snoc]
  exact Go.SX.Ent.go
end Go.Proofs.YtiampehfpgcogaaDoor
namespace Go.SX
open Go
def EntX (L : List HP) (F : List HP → Prop) : Prop := ∀ w G, St w (L ++ G) → ∃ L2, F L2 ∧ St w (L2 ++ G)
theorem EntX.ent {L L' : List HP} {F : List HP → Prop} (h : Ent L L') (hk : EntX L' F) : EntX L F := fun w G t => hk w G (h w G t)
theorem EntX.done {L : List HP} {F : List HP → Prop} (h : F L) : EntX L F := fun _ _ t => ⟨L, h, t⟩
theorem EntX.ex {α : Sort _} {X : α → HP} {L : List HP} {F : List HP → Prop} (h : ∀ x, EntX (X x :: L) F) : EntX (exH X :: L) F := fun w G t => let ⟨x, t⟩ := St.open_ex t; h x w G t
theorem EntX.pure {φ : Prop} {L : List HP} {F : List HP → Prop} (h : φ → EntX L F) : EntX (pureH φ :: L) F := fun w G t => let ⟨x, t⟩ := St.open_pure t; h x w G t
theorem EntX.abs (a : Option Addr) {t sz m c : Nat} {cs : List Value} {M : Nat → Option Obj} {L L0 L1 : List HP} {F : List HP → Prop} [h : PickS a L t sz m c cs L0] [h1 : PickM L0 M L1] (hk : ∀ M', leM M M' → SlM M' a m sz cs → EntX (roM M' :: L1) F) : EntX L F :=
  EntX.ent h.ent (EntX.ent Ent.absorb (EntX.ex fun M' => EntX.ent Ent.open_all (EntX.pure fun h => hk M' h.1 h.2)))
theorem CallsS.post {P : Program} {g : FuncId} {args : List Value} {L : List HP} {R R' : Value → List HP → Prop} (h : CallsS P g args L R) (hR : ∀ v L1, R v L1 → EntX L1 (R' v)) : CallsS P g args L R' := by
  intro F w t
  refine (h F w t).mono ?_
  rintro e w' ⟨v, M, rfl, t', r⟩
  obtain ⟨L2, h1, h2⟩ := hR v M r w' F t'
  exact ⟨v, L2, rfl, h2, h1⟩
end Go.SX
namespace Go.Proofs.YtiampehfpgcogaaDoor
open Go Go.SX
attribute [local irreducible] swp opsS thenS blockS retS CallsS St Ent YieldS anyS drawS
structure PG where
  rec_ : List NA
  notes : List NA
  mail : List (Int × NA)
  inst : List NA
  els : List (Int × NA)
def PG.none : PG := ⟨[], [], [], [], []⟩
def voteG (j : JG) (fr : Int) (n : NA) : PG :=
  match lkL j.tr n.txn with
  | none => PG.none
  | some t =>
    if 0 < t.stamp ∨ fr ∉ t.parts then PG.none
    else if n.code ≠ 0 then ⟨[], [goneN t.txn], toldM t 0 n.code, [], []⟩
    else if fr ∈ t.yes then PG.none
    else if t.yes.length + 1 ≠ t.parts.length then ⟨[], [{ NA.zero with kind := 20, txn := n.txn, who := fr }], [], [], []⟩
    else ⟨[{ NA.zero with kind := 17, txn := t.txn, batch := t.batch, stamp := j.last + 1, parts := t.parts }], [], toldM t (j.last + 1) 0, [goneN t.txn], toldM t 0 8⟩
def ackG (j : JG) (fr : Int) (n : NA) : PG :=
  match lkL j.tr n.txn with
  | none => PG.none
  | some t =>
    if t.stamp = 0 ∨ fr ∉ t.parts ∨ fr ∈ t.acked then PG.none
    else if t.acked.length + 1 ≠ t.parts.length then ⟨[], [{ NA.zero with kind := 21, txn := n.txn, who := fr }], [], [], []⟩
    else ⟨[{ NA.zero with kind := 18, txn := n.txn }], [], [], [], []⟩
def probeG (j : JG) (fr : Int) (n : NA) : PG :=
  match lkL j.tr n.txn with
  | none => ⟨[], [], [decM fr n.txn 0 6], [], []⟩
  | some t => if t.stamp = 0 then PG.none else ⟨[], [], [decM fr n.txn t.stamp 0], [], []⟩
def okNs (M : Nat → Option Obj) (a : Option Addr) (xs : List NV) : Prop := SlM M a xs.length 16 (xs.flatMap NV.cells) ∧ ∀ n ∈ xs, okN M n
def okMs (M : Nat → Option Obj) (a : Option Addr) (xs : List (Int × NV)) : Prop := SlM M a xs.length 17 (xs.flatMap mcells) ∧ ∀ n ∈ xs, okN M n.2
theorem okNs.mono {M M' : Nat → Option Obj} {a : Option Addr} {xs : List NV} (h : okNs M a xs) (hl : leM M M') : okNs M' a xs := ⟨h.1.mono hl, fun n hn => (h.2 n hn).mono hl⟩
theorem okMs.mono {M M' : Nat → Option Obj} {a : Option Addr} {xs : List (Int × NV)} (h : okMs M a xs) (hl : leM M M') : okMs M' a xs := ⟨h.1.mono hl, fun n hn => (h.2 n hn).mono hl⟩
theorem okNs.nil {M : Nat → Option Obj} {a : Option Addr} : okNs M a [] := ⟨SlM.nil0, fun _ h => by cases h⟩
theorem okMs.nil {M : Nat → Option Obj} {a : Option Addr} : okMs M a [] := ⟨SlM.nil0, fun _ h => by cases h⟩
theorem okMs.nv {M : Nat → Option Obj} {a : Option Addr} {l : List (Int × NA)} (h : SlM M a l.length 17 (l.flatMap mailC)) : okMs M a (l.map fun m => (m.1, m.2.nv)) := by
  refine ⟨by rw [List.length_map, List.flatMap_map]; exact h, fun n hn => ?_⟩
  obtain ⟨u, _, rfl⟩ := List.mem_map.1 hn
  exact okN.nv u.2
theorem okNs.nv {M : Nat → Option Obj} {a : Option Addr} {l : List NA} (h : SlM M a l.length 16 (l.flatMap fun r => r.nv.cells)) : okNs M a (l.map NA.nv) := by
  refine ⟨by rw [List.length_map, List.flatMap_map]; exact h, fun n hn => ?_⟩
  obtain ⟨u, _, rfl⟩ := List.mem_map.1 hn
  exact okN.nv u
def planGR (M : Nat → Option Obj) (p : Nat) (j : JG) (pl : PG) (L : List HP) (r : Value) (L' : List HP) : Prop := ∃ (a1 : Option Addr) (c1 : Nat) (rs : List NV) (a2 : Option Addr) (c2 : Nat) (ns : List NV) (a3 : Option Addr) (c3 : Nat) (ms : List (Int × NV)) (a4 : Option Addr) (c4 : Nat) (is : List NV) (a5 : Option Addr) (c5 : Nat) (es : List (Int × NV)) (M' : Nat → Option Obj),
  r = .agg #[.slice a1 rs.length c1, .slice a2 ns.length c2, .slice a3 ms.length c3, .slice a4 is.length c4, .slice a5 es.length c5] ∧ leM M M' ∧
  (okNs M' a1 rs ∧ okNs M' a2 ns ∧ okMs M' a3 ms ∧ okNs M' a4 is ∧ okMs M' a5 es) ∧
  (rs.map NV.abs = pl.rec_ ∧ ns.map NV.abs = pl.notes ∧ ms.map (fun m => (m.1, m.2.abs)) = pl.mail ∧ is.map NV.abs = pl.inst ∧ es.map (fun m => (m.1, m.2.abs)) = pl.els) ∧
  L' = jdgH M' p j :: roM M' :: L
def planGR0 (M : Nat → Option Obj) (p : Nat) (j : JG) (pl : PG) (L : List HP) (r : Value) (L' : List HP) : Prop := ∃ (a1 : Option Addr) (c1 : Nat) (rs : List NV) (a2 : Option Addr) (c2 : Nat) (ns : List NV) (a3 : Option Addr) (c3 : Nat) (ms : List (Int × NV)) (a4 : Option Addr) (c4 : Nat) (is : List NV) (a5 : Option Addr) (c5 : Nat) (es : List (Int × NV)) (M' : Nat → Option Obj),
  r = .agg #[.slice a1 rs.length c1, .slice a2 ns.length c2, .slice a3 ms.length c3, .slice a4 is.length c4, .slice a5 es.length c5] ∧ leM M M' ∧
  ((∀ n ∈ rs, okN M' n) ∧ (∀ n ∈ ns, okN M' n) ∧ (∀ n ∈ ms, okN M' n.2) ∧ (∀ n ∈ is, okN M' n) ∧ ∀ n ∈ es, okN M' n.2) ∧
  (rs.map NV.abs = pl.rec_ ∧ ns.map NV.abs = pl.notes ∧ ms.map (fun m => (m.1, m.2.abs)) = pl.mail ∧ is.map NV.abs = pl.inst ∧ es.map (fun m => (m.1, m.2.abs)) = pl.els) ∧
  L' = slO 39 16 a1 rs.length c1 (rs.flatMap NV.cells) :: slO 39 16 a2 ns.length c2 (ns.flatMap NV.cells) :: slO 49 17 a3 ms.length c3 (ms.flatMap mcells) :: slO 39 16 a4 is.length c4 (is.flatMap NV.cells) :: slO 49 17 a5 es.length c5 (es.flatMap mcells) :: jdgH M' p j :: roM M' :: L
theorem planGR.of0 {M : Nat → Option Obj} {p : Nat} {j : JG} {pl : PG} {L : List HP} {r : Value} {L' : List HP} (h : planGR0 M p j pl L r L') : EntX L' (planGR M p j pl L r) := by
  obtain ⟨a1, c1, rs, a2, c2, ns, a3, c3, ms, a4, c4, is, a5, c5, es, M0, rfl, hl, ⟨o1, o2, o3, o4, o5⟩, ab, rfl⟩ := h
  refine EntX.abs a1 (fun M1 l1 s1 => ?_)
  refine EntX.abs a2 (fun M2 l2 s2 => ?_)
  refine EntX.abs a3 (fun M3 l3 s3 => ?_)
  refine EntX.abs a4 (fun M4 l4 s4 => ?_)
  refine EntX.abs a5 (fun M5 l5 s5 => ?_)
  have l45 := l5
  have l35 := l4.trans l45
  have l25 := l3.trans l35
  have l15 := l2.trans l25
  have l05 := l1.trans l15
  refine EntX.ent (Ent.trans (M := jdgH M0 p j :: roM M5 :: L) (by exact Go.SX.Ent.go) (jdg_mono l05)) (EntX.done ?_)
  exact ⟨a1, c1, rs, a2, c2, ns, a3, c3, ms, a4, c4, is, a5, c5, es, M5, rfl, hl.trans l05, ⟨⟨s1.mono l15, fun n hn => (o1 n hn).mono l05⟩, ⟨s2.mono l25, fun n hn => (o2 n hn).mono l05⟩, ⟨s3.mono l35, fun n hn => (o3 n hn).mono l05⟩, ⟨s4.mono l45, fun n hn => (o4 n hn).mono l05⟩, ⟨s5, fun n hn => (o5 n hn).mono l05⟩⟩, ab, rfl⟩
theorem nvm_abs {l : List (Int × NA)} (h : ∀ m ∈ l, m.2.nv.abs = m.2) : (l.map fun m => (m.1, m.2.nv)).map (fun m : Int × NV => (m.1, m.2.abs)) = l := by
  rw [List.map_map]
  refine (List.map_congr_left fun m hm => ?_).trans (List.map_id l)
  show (m.1, m.2.nv.abs) = m
  rw [h m hm]
theorem toldM_abs (t : TR) (s c : Int) : ∀ m ∈ toldM t s c, m.2.nv.abs = m.2 := by
  intro m hm
  unfold toldM at hm
  rcases List.mem_append.1 hm with h | h
  · obtain ⟨q, _, rfl⟩ := List.mem_map.1 h; rfl
  · rw [List.mem_singleton] at h; subst h; rfl
theorem toldM_len (t : TR) (s c : Int) : (toldM t s c).length = t.parts.length + 1 := by
  unfold toldM; rw [List.length_append, List.length_map]; rfl
theorem planGR.none (M : Nat → Option Obj) (p : Nat) (j : JG) (L : List HP) : planGR M p j PG.none L (.agg #[.slice none 0 0, .slice none 0 0, .slice none 0 0, .slice none 0 0, .slice none 0 0]) (jdgH M p j :: roM M :: L) :=
  ⟨Option.none, 0, [], Option.none, 0, [], Option.none, 0, [], Option.none, 0, [], Option.none, 0, [], M, rfl, leM.refl M, ⟨okNs.nil, okNs.nil, okMs.nil, okNs.nil, okMs.nil⟩, ⟨rfl, rfl, rfl, rfl, rfl⟩, rfl⟩
theorem planGR0.none (M : Nat → Option Obj) (p : Nat) (j : JG) (L : List HP) : planGR0 M p j PG.none L (.agg #[.slice none 0 0, .slice none 0 0, .slice none 0 0, .slice none 0 0, .slice none 0 0]) (slO 39 16 Option.none 0 0 [] :: slO 39 16 Option.none 0 0 [] :: slO 49 17 Option.none 0 0 [] :: slO 39 16 Option.none 0 0 [] :: slO 49 17 Option.none 0 0 [] :: jdgH M p j :: roM M :: L) :=
  ⟨Option.none, 0, [], Option.none, 0, [], Option.none, 0, [], Option.none, 0, [], Option.none, 0, [], M, rfl, leM.refl M, ⟨fun _ h => (by cases h), fun _ h => (by cases h), fun _ h => (by cases h), fun _ h => (by cases h), fun _ h => (by cases h)⟩, ⟨rfl, rfl, rfl, rfl, rfl⟩, rfl⟩
theorem nil5 {L : List HP} : Ent L (slO 39 16 none 0 0 [] :: slO 39 16 none 0 0 [] :: slO 49 17 none 0 0 [] :: slO 39 16 none 0 0 [] :: slO 49 17 none 0 0 [] :: L) := by exact Go.SX.Ent.go
section
variable {n : Nat} {ops rest : List Oper} {cd : Code} {Q : Post} {f : Env} {L L0 : List HP}
theorem opsS_trs {ts : List TB} [hp : Pick (trsH ts) L L0] {k : Nat} {u : TB} (h : ts[k]? = some u) (hk : opsS Tryd.prog n ops rest Q f (oneT u.2 :: trsH (ts.eraseIdx k) :: L0)) : opsS Tryd.prog n ops rest Q f L := opsS_ent (hp.ent.trans (trs_out h)) hk
theorem swp_trs {ts : List TB} [hp : Pick (trsH ts) L L0] {k : Nat} {u : TB} (h : ts[k]? = some u) (hk : swp Tryd.prog n cd Q f (oneT u.2 :: trsH (ts.eraseIdx k) :: L0)) : swp Tryd.prog n cd Q f L := swp_ent (hp.ent.trans (trs_out h)) hk
end
theorem trs_back {ts : List TB} {k : Nat} {u : TB} (h : ts[k]? = some u) {L : List HP} : Ent (oneT u.2 :: trsH (ts.eraseIdx k) :: L) (trsH ts :: L) := by
  have hk : k < ts.length := (List.getElem?_eq_some_iff.1 h).1
  have hu : ts[k] = u := (List.getElem?_eq_some_iff.1 h).2
  have := trs_in hk u (L := L)
  rw [← hu, List.set_getElem_self] at this
  rw [← hu]
  exact this
theorem gclose {p mt md : Nat} {M : Nat → Option Obj} {j : JG} {ts : List TB} {L L0 L1 L2 L3 : List HP} [h1 : Pick (gP p j mt md) L L0] [h2 : Pick (gT mt ts) L0 L1] [h3 : Pick (trsH ts) L1 L2] [h4 : Pick (gD md j.done) L2 L3] (hq : GQ' M j ts) : Ent L (jdgH M p j :: L3) :=
  Ent.trans h1.ent (Ent.trans (Ent.cons (Ent.trans h2.ent (Ent.cons (Ent.trans h3.ent (Ent.cons h4.ent))))) (jdg_shut hq))
theorem jdg_shut1 {p mt md : Nat} {M : Nat → Option Obj} {j : JG} {ts : List TB} {k : Nat} {u : TB} {L : List HP} (hk : ts[k]? = some u) (hq : GQ' M j ts) : Ent (gP p j mt md :: gT mt ts :: oneT u.2 :: trsH (ts.eraseIdx k) :: gD md j.done :: L) (jdgH M p j :: L) :=
  Ent.trans (Ent.cons (Ent.cons (trs_back hk))) (jdg_shut hq)
theorem lk_tr {ts : List TB} {tr : List (Int × TR)} (h : ts.map (fun u => (u.1, u.2.2.abs)) = tr) (x : Int) : lkL tr x = (lkL ts x).map fun u => u.2.abs := by
  subst h
  unfold lkL
  rw [List.find?_map]
  show ((ts.find? fun p => decide (p.1 = x)).map fun u => (u.1, u.2.2.abs)).map (·.2) = _
  cases ts.find? fun p => decide (p.1 = x) <;> rfl
theorem lk_idx {ts : List TB} {x : Int} {u : Nat × TV} (h : lkL (α := Nat × TV) ts x = some u) : ∃ k : Nat, ts[k]? = some ((x, u) : TB) := by
  unfold lkL at h
  cases hf : ts.find? fun p => decide (p.1 = x) with
  | none => rw [hf] at h; cases h
  | some w =>
    rw [hf] at h
    cases h
    have h1 := List.find?_some hf
    have h2 := List.mem_of_find?_eq_some hf
    obtain ⟨k, hk⟩ := List.mem_iff_getElem?.1 h2
    refine ⟨k, ?_⟩
    rw [hk, ← of_decide_eq_true h1]
theorem Gprobe_spec (n : NV) (M : Nat → Option Obj) (p : Nat) (j : JG) (fr : Int) (L : List HP) :
    CallsS Tryd.prog 22 [ptrG p, .int .i64 fr, n.val] (jdgH M p j :: roM M :: L) (planGR M p j (probeG j fr n.abs) L) := by
  unfold probeG
  refine calls_jdg fun mt md ts hq => ?_
  refine CallsS.of_body Tryd.func22 rfl rfl rfl ?_
  refine Q.r ?_; (repeat (intro b1; refine Q.r ?_))
  rename_i b5
  revert b1
  intro b6
  refine Q.dgo [true, true, true, true, true, true, true] [] [] [0, 1, 2, 3, 4, 5, 6, 7] ?_
  refine Q.rd ?_; (repeat (intro b1; refine Q.rd ?_))
  refine D.y rfl rfl rfl (by kernel_rfl) (Y.lk false rfl rfl (fun w => Tryd.zeroValue70 w)) ?_
  rw [lk_tr hq.tr n.txn]
  cases hz : lkL (α := Nat × TV) ts n.txn with
  | none =>
    dsimp only [Option.map_none]
    refine Q.rd ?_; (repeat (intro b1; refine Q.rd ?_))
    refine Q.r ?_; (repeat (intro b1; refine Q.r ?_))
    refine opsS_ent (slO_fold (sz := 1) (m := 1) rfl) ?_
    refine opsS_abs (some ⟨b1, 0, none⟩) (fun M1 hl1 hs1 => ?_)
    refine S.cr rfl (Gdecide_spec n.txn 0 6 (some ⟨b1, 0, none⟩) 1 [fr] _ (SlM.rd (cs := [I64 fr]) hs1) (Nat.le_of_ble_eq_true rfl)) ?_
    rintro _ _ ⟨a1, c1, rfl, rfl⟩
    refine opsS_abs a1 (fun M2 hl2 hs2 => ?_)
    refine Q.r ?_; (repeat (intro b1; refine Q.r ?_))
    refine N.r1 (by apply RV.cellN; rfl; exact RdC.row; rfl; exact RV.nil) (Ent.trans (M := gP p j mt md :: gT mt ts :: trsH ts :: gD md j.done :: roM M2 :: L) (by exact Go.SX.Ent.go) (jdg_shut (hq.mono (hl1.trans hl2)))) ⟨none, 0, [], none, 0, [], a1, c1, [(fr, (decM fr n.txn 0 6).2.nv)], none, 0, [], none, 0, [], M2, rfl, hl1.trans hl2, ⟨okNs.nil, okNs.nil, okMs.nv (l := [decM fr n.txn 0 6]) hs2, okNs.nil, okMs.nil⟩, ⟨rfl, rfl, rfl, rfl, rfl⟩, rfl⟩
  | some u =>
    obtain ⟨k, hk⟩ := lk_idx hz
    dsimp only [Option.map_some]
    refine Q.rd ?_; (repeat (intro b1; refine Q.rd ?_))
    refine Q.r ?_; (repeat (intro b1; refine Q.r ?_))
    refine opsS_trs hk ?_
    by_cases hs : u.2.stamp = 0
    · rw [if_pos hs]
      refine Q.r ?_; (repeat (intro b1; refine Q.r ?_))
      exact N.r1 (by apply RV.cellN; rfl; exact RdC.row; rfl; exact RV.nil) (Ent.trans (M := gP p j mt md :: gT mt ts :: oneT u :: trsH (ts.eraseIdx k) :: gD md j.done :: roM M :: L) (by exact Go.SX.Ent.go) (jdg_shut1 hk hq)) (planGR.none M p j L)
    · rw [if_neg hs]
      refine Q.r ?_; (repeat (intro b1; refine Q.r ?_))
      refine Q.dgo [true, false, false, true] [8, 9, 11] [] [0, 1, 2, 3, 4, 5, 6, 7, 8, 9, 10, 11] ?_
      refine Q.rd ?_; (repeat (intro b1; refine Q.rd ?_))
      refine D.e rfl rfl rfl ?_
      refine opsS_ent (slO_fold (sz := 1) (m := 1) rfl) ?_
      refine opsS_abs (some ⟨b1, 0, none⟩) (fun M1 hl1 hs1 => ?_)
      refine S.cr rfl (Gdecide_spec n.txn u.2.stamp 0 (some ⟨b1, 0, none⟩) 1 [fr] _ (SlM.rd (cs := [I64 fr]) hs1) (Nat.le_of_ble_eq_true rfl)) ?_
      rintro _ _ ⟨a1, c1, rfl, rfl⟩
      refine opsS_abs a1 (fun M2 hl2 hs2 => ?_)
      refine Q.r ?_; (repeat (intro b1; refine Q.r ?_))
      refine Q.rd ?_; (repeat (intro b1; refine Q.rd ?_))
      refine Q.r ?_; (repeat (intro b1; refine Q.r ?_))
      refine N.r1 (by apply RV.cellN; rfl; exact RdC.row; rfl; exact RV.nil) (Ent.trans (M := gP p j mt md :: gT mt ts :: oneT u :: trsH (ts.eraseIdx k) :: gD md j.done :: roM M2 :: L) (by exact Go.SX.Ent.go) (jdg_shut1 hk (hq.mono (hl1.trans hl2)))) ⟨none, 0, [], none, 0, [], a1, c1, [(fr, (decM fr n.txn u.2.stamp 0).2.nv)], none, 0, [], none, 0, [], M2, rfl, hl1.trans hl2, ⟨okNs.nil, okNs.nil, okMs.nv (l := [decM fr n.txn u.2.stamp 0]) hs2, okNs.nil, okMs.nil⟩, ⟨rfl, rfl, rfl, rfl, rfl⟩, rfl⟩
theorem Gack_spec (n : NV) (M : Nat → Option Obj) (p : Nat) (j : JG) (fr : Int) (L : List HP) :
    CallsS Tryd.prog 21 [ptrG p, .int .i64 fr, n.val] (jdgH M p j :: roM M :: L) (planGR0 M p j (ackG j fr n.abs) L) := by
  unfold ackG
  refine calls_jdg fun mt md ts hq => ?_
  refine CallsS.of_body Tryd.func21 rfl rfl rfl ?_
  refine Q.r ?_; (repeat (intro b1; refine Q.r ?_))
  rename_i b5
  revert b1
  intro b6
  refine Q.dgo [true, true, true, true, true, true, true] [] [] [0, 1, 2, 3, 4, 5, 6, 7] ?_
  refine Q.rd ?_; (repeat (intro b1; refine Q.rd ?_))
  refine D.y rfl rfl rfl (by kernel_rfl) (Y.lk false rfl rfl (fun w => Tryd.zeroValue70 w)) ?_
  rw [lk_tr hq.tr n.txn]
  cases hz : lkL (α := Nat × TV) ts n.txn with
  | none =>
    dsimp only [Option.map_none]
    refine Q.rd ?_; (repeat (intro b1; refine Q.rd ?_))
    refine Q.r ?_; (repeat (intro b1; refine Q.r ?_))
    exact N.r1 (by apply RV.cellN; rfl; exact RdC.row; rfl; exact RV.nil) (Ent.trans (Ent.trans (M := gP p j mt md :: gT mt ts :: trsH ts :: gD md j.done :: roM M :: L) (by exact Go.SX.Ent.go) (jdg_shut hq)) nil5) (planGR0.none M p j L)
  | some u =>
    obtain ⟨k, hk⟩ := lk_idx hz
    have hu : okT M u.2 := hq.ok _ (List.mem_of_getElem? hk)
    have hpl := hu.pl
    have hkl := hu.kl
    dsimp only [Option.map_some]
    refine Q.rd ?_; (repeat (intro b1; refine Q.rd ?_))
    refine Q.r ?_; (repeat (intro b1; refine Q.r ?_))
    refine opsS_trs hk ?_
    by_cases hs : u.2.stamp = 0
    · rw [if_pos (.inl hs)]
      refine Q.r ?_; (repeat (intro b1; refine Q.r ?_))
      exact N.r1 (by apply RV.cellN; rfl; exact RdC.row; rfl; exact RV.nil) (Ent.trans (Ent.trans (M := gP p j mt md :: gT mt ts :: oneT u :: trsH (ts.eraseIdx k) :: gD md j.done :: roM M :: L) (by exact Go.SX.Ent.go) (jdg_shut1 hk hq)) nil5) (planGR0.none M p j L)
    refine Q.r ?_; (repeat (intro b1; refine Q.r ?_))
    refine S.cr rfl (ContainsP_spec u.2.pa u.2.pc u.2.parts fr _ hu.p.rd hpl) ?_
    rintro _ _ ⟨rfl, rfl⟩
    by_cases hc : fr ∈ u.2.parts
    case neg =>
      rw [if_pos (.inr (.inl hc)), decide_eq_false hc]
      refine Q.r ?_; (repeat (intro b1; refine Q.r ?_))
      exact N.r1 (by apply RV.cellN; rfl; exact RdC.row; rfl; exact RV.nil) (Ent.trans (Ent.trans (M := gP p j mt md :: gT mt ts :: oneT u :: trsH (ts.eraseIdx k) :: gD md j.done :: roM M :: L) (by exact Go.SX.Ent.go) (jdg_shut1 hk hq)) nil5) (planGR0.none M p j L)
    rw [decide_eq_true hc]
    refine Q.r ?_; (repeat (intro b1; refine Q.r ?_))
    refine S.cr rfl (ContainsP_spec u.2.ka u.2.kc u.2.acked fr _ hu.k.rd hkl) ?_
    rintro _ _ ⟨rfl, rfl⟩
    by_cases hd : fr ∈ u.2.acked
    · rw [if_pos (.inr (.inr hd)), decide_eq_true hd]
      refine Q.r ?_; (repeat (intro b1; refine Q.r ?_))
      exact N.r1 (by apply RV.cellN; rfl; exact RdC.row; rfl; exact RV.nil) (Ent.trans (Ent.trans (M := gP p j mt md :: gT mt ts :: oneT u :: trsH (ts.eraseIdx k) :: gD md j.done :: roM M :: L) (by exact Go.SX.Ent.go) (jdg_shut1 hk hq)) nil5) (planGR0.none M p j L)
    rw [decide_eq_false hd, if_neg (show ¬ (u.2.abs.stamp = 0 ∨ fr ∉ u.2.abs.parts ∨ fr ∈ u.2.abs.acked) from fun h => h.elim hs (fun h => h.elim (fun h => h hc) hd))]
    refine Q.r ?_; (repeat (intro b1; refine Q.r ?_))
    refine S.cr rfl (GlastOf_spec u u.2.ka u.2.acked.length u.2.kc _ hkl hpl) ?_
    rintro _ _ ⟨rfl, rfl⟩
    by_cases hl : u.2.acked.length + 1 = u.2.parts.length
    · rw [if_neg (fun h => h hl), decide_eq_true hl]
      refine Q.r ?_; (repeat (intro b1; refine Q.r ?_))
      refine N.r1 (by apply RV.cellN; rfl; exact RdC.row; rfl; exact RV.nil) (Ent.trans (M := pt b1 (cl (NA.nv { NA.zero with kind := 18, txn := n.txn }).cells 39) :: gP p j mt md :: gT mt ts :: oneT u :: trsH (ts.eraseIdx k) :: gD md j.done :: roM M :: L) (by exact Go.SX.Ent.go) (Ent.trans (Ent.cons (jdg_shut1 hk hq)) (Ent.trans (slO_fold (sz := 16) (m := 1) rfl) ?_))) ⟨some ⟨b1, 0, none⟩, 1, [NA.nv { NA.zero with kind := 18, txn := n.txn }], none, 0, [], none, 0, [], none, 0, [], none, 0, [], M, rfl, leM.refl M, ⟨fun m hm => by rw [List.mem_singleton.1 hm]; exact okN.nv _, fun _ h => (by cases h), fun _ h => (by cases h), fun _ h => (by cases h), fun _ h => (by cases h)⟩, ⟨rfl, rfl, rfl, rfl, rfl⟩, rfl⟩
      show Ent _ (slO 39 16 (some ⟨b1, 0, none⟩) 1 1 (NA.nv { NA.zero with kind := 18, txn := n.txn }).cells :: slO 39 16 none 0 0 [] :: slO 49 17 none 0 0 [] :: slO 39 16 none 0 0 [] :: slO 49 17 none 0 0 [] :: jdgH M p j :: roM M :: L)
      exact Go.SX.Ent.go
    · rw [if_pos hl, decide_eq_false hl]
      refine Q.r ?_; (repeat (intro b1; refine Q.r ?_))
      refine N.r1 (by apply RV.cellN; rfl; exact RdC.row; rfl; exact RV.nil) (Ent.trans (M := pt b1 (cl (NA.nv { NA.zero with kind := 21, txn := n.txn, who := fr }).cells 39) :: gP p j mt md :: gT mt ts :: oneT u :: trsH (ts.eraseIdx k) :: gD md j.done :: roM M :: L) (by exact Go.SX.Ent.go) (Ent.trans (Ent.cons (jdg_shut1 hk hq)) (Ent.trans (slO_fold (sz := 16) (m := 1) rfl) ?_))) ⟨none, 0, [], some ⟨b1, 0, none⟩, 1, [NA.nv { NA.zero with kind := 21, txn := n.txn, who := fr }], none, 0, [], none, 0, [], none, 0, [], M, rfl, leM.refl M, ⟨fun _ h => (by cases h), fun m hm => by rw [List.mem_singleton.1 hm]; exact okN.nv _, fun _ h => (by cases h), fun _ h => (by cases h), fun _ h => (by cases h)⟩, ⟨rfl, rfl, rfl, rfl, rfl⟩, rfl⟩
      show Ent _ (slO 39 16 none 0 0 [] :: slO 39 16 (some ⟨b1, 0, none⟩) 1 1 (NA.nv { NA.zero with kind := 21, txn := n.txn, who := fr }).cells :: slO 49 17 none 0 0 [] :: slO 39 16 none 0 0 [] :: slO 49 17 none 0 0 [] :: jdgH M p j :: roM M :: L)
      exact Go.SX.Ent.go
end Go.Proofs.YtiampehfpgcogaaDoor
