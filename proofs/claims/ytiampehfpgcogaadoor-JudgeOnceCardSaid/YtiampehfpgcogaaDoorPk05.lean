/- The readings of the juror's notes; the table of the kinds. The table of the kinds: from what the row lists to its cells. The judge: what it is, as it lies; its small functions. What follows behind a call, by what lies there. The judge: what it plans for a vote, an acknowledgement, a probe. The judge: its plans and its records as laws of states. copy; append of zeros onto a slice that is full. slices.Sort at a few numbers of type int: insertionSort alone. slices.BinarySearch, slices.Insert at numbers of type int; the judge's put. The judge: what it plans for a vote. JudgeOnce: the law, of states alone. No condition. -/
import Derived.Test.YtiampehfpgcogaaDoorCards
import Derived.Test.YtiampehfpgcogaaDoorTie
import Derived.Deep.DeepHandedRow
import Derived.Lib.LaidTab
import Derived.Lib.AppendZerosOnto
import Derived.Lib.Overlaps
import Derived.Test.YtiampehfpgcogaaDoorPk04
set_option linter.unusedVariables false
set_option linter.unusedSimpArgs false
set_option linter.unusedSectionVars false
namespace Go.Proofs.YtiampehfpgcogaaDoor
open Go Go.SX Go.ChangeShapes Go.WideShapes Go.ChangeAt Go.RowKit
theorem u8_wf {n : Int} (h : (Lit.int .u8 n).wf = true) : 0 ≤ n ∧ n ≤ 255 := bounds_u8 h
theorem Rd.u8b {H : Type} {enc : TypeId × Value → H} {W : World} {cs : List Value} (h : Rd enc Tryd.prog W 5 cs) : ∃ z, cs = [Value.int .u8 z] ∧ (0 ≤ z ∧ z ≤ 255) := by
  obtain ⟨z, hz, hw⟩ := Rd.int h Tryd.underlying5
  exact ⟨z, hz, u8_wf hw⟩
theorem Rd.i64 {H : Type} {enc : TypeId × Value → H} {W : World} {cs : List Value} (h : Rd enc Tryd.prog W 3 cs) : ∃ z, cs = [I64 z] ∧ True := by
  obtain ⟨z, hz, hw⟩ := Rd.int h Tryd.underlying3
  exact ⟨z, hz, trivial⟩
theorem Rd.i64b {H : Type} {enc : TypeId × Value → H} {W : World} {cs : List Value} (h : Rd enc Tryd.prog W 3 cs) : ∃ z, cs = [I64 z] ∧ (-9223372036854775808 ≤ z ∧ z ≤ 9223372036854775807) := by
  obtain ⟨z, hz, hw⟩ := Rd.int h Tryd.underlying3
  exact ⟨z, hz, bounds_i64 hw⟩
theorem Rd.errnob {H : Type} {enc : TypeId × Value → H} {W : World} {cs : List Value} (h : Rd enc Tryd.prog W 25 cs) : ∃ z, cs = [I64 z] ∧ (-9223372036854775808 ≤ z ∧ z ≤ 9223372036854775807) := by
  obtain ⟨z, hz, hw⟩ := Rd.int h Tryd.underlying25
  exact ⟨z, hz, bounds_i64 hw⟩
theorem Rd.pints {H : Type} {enc : TypeId × Value → H} {W : World} {cs : List Value} (h : Rd enc Tryd.prog W 31 cs) : ∃ (a : Option Addr) (c : Nat) (xs : List Int), cs = [.slice a xs.length c] ∧ xs.length ≤ c ∧ xs.length ≤ 9223372036854775807 ∧ SlM (all0 W) a xs.length 1 (xs.map I64) := by
  obtain ⟨a, c, ls, h1, h1c, h1m, h1s, h1q⟩ := Rd.list (fun r hr => Rd.i64 hr) h (sz := 1) Tryd.underlying31 (by kernel_rfl) (by decide)
  have hmx : maxLen = 9223372036854775807 := by decide
  rw [hmx] at h1m
  rw [flat_I64] at h1s
  exact ⟨a, c, ls, h1, h1c, Nat.le_trans h1c h1m, h1s⟩
set_option maxRecDepth 100000 in
theorem Rd.hit {H : Type} {enc : TypeId × Value → H} {W : World} {cs : List Value} (h : Rd enc Tryd.prog W 85 cs) : ∃ o : HV, cs = o.cells ∧ (SlM (all0 W) o.a o.vec.length 1 (o.vec.map I32) ∧ o.vec.length ≤ o.c) := by
  obtain ⟨hl, hf⟩ := h.fields Tryd.underlying85
  obtain ⟨x, h0, hx⟩ := Rd.u64 (hf 0 _ rfl)
  obtain ⟨y, h1, hy⟩ := Rd.u64 (hf 1 _ rfl)
  obtain ⟨a, c, xs, h2, h3, h4, h5⟩ := Rd.vec (hf 2 _ rfl)
  have hl' : cs.length = 3 := hl.trans (by kernel_rfl)
  match cs, hl' with
  | [u, v, w], _ =>
    have h0' : [u] = [Value.int .u64 x] := h0
    have h1' : [v] = [Value.int .u64 y] := h1
    have h2' : [w] = [Value.slice a xs.length c] := h2
    simp only [List.cons.injEq, and_true] at h0' h1' h2'
    subst h0' h1' h2'
    exact ⟨⟨x, y, a, c, xs⟩, rfl, h5, h3⟩
theorem Rd.hits {H : Type} {enc : TypeId × Value → H} {W : World} {cs : List Value} (h : Rd enc Tryd.prog W 34 cs) : ∃ (a : Option Addr) (c : Nat) (hs : List HV), cs = [.slice a hs.length c] ∧ SlM (all0 W) a hs.length 3 (hs.flatMap HV.cells) ∧ hs.length ≤ 9223372036854775807 ∧ ∀ x ∈ hs, SlM (all0 W) x.a x.vec.length 1 (x.vec.map I32) ∧ x.vec.length ≤ x.c := by
  obtain ⟨a, c, ls, h1, h1c, h1m, h1s, h1q⟩ := Rd.list (fun r hr => Rd.hit hr) h (sz := 3) Tryd.underlying34 (by kernel_rfl) (by decide)
  have hmx : maxLen = 9223372036854775807 := by decide
  rw [hmx] at h1m
  exact ⟨a, c, ls, h1, h1s, Nat.le_trans h1c h1m, h1q⟩
set_option maxHeartbeats 1000000 in
set_option maxRecDepth 100000 in
theorem Rd.note {H : Type} {enc : TypeId × Value → H} {W : World} {cs : List Value} (h : Rd enc Tryd.prog W 36 cs) : ∃ n : NV, cs = n.cells ∧ okN (all0 W) n ∧ CapN n ∧ NumN n ∧ NumA n.abs := by
  obtain ⟨hl, hf⟩ := h.fields Tryd.underlying36
  obtain ⟨x0, h0, k0⟩ := Rd.u8b (hf 0 _ rfl)
  obtain ⟨x1, h1, k1⟩ := Rd.u64 (hf 1 _ rfl)
  obtain ⟨x2, h2, k2⟩ := Rd.u64 (hf 2 _ rfl)
  obtain ⟨x3, h3, k3⟩ := Rd.u64 (hf 3 _ rfl)
  obtain ⟨x4, h4, k4⟩ := Rd.u64 (hf 4 _ rfl)
  obtain ⟨x5, h5, k5⟩ := Rd.u64 (hf 5 _ rfl)
  obtain ⟨x6, h6, k6⟩ := Rd.u64 (hf 6 _ rfl)
  obtain ⟨x7, h7, k7⟩ := Rd.u64 (hf 7 _ rfl)
  obtain ⟨x8, h8, k8⟩ := Rd.i64b (hf 8 _ rfl)
  obtain ⟨x9, h9, k9⟩ := Rd.i64b (hf 9 _ rfl)
  obtain ⟨x10, h10, k10⟩ := Rd.errnob (hf 10 _ rfl)
  obtain ⟨x11, h11, k11⟩ := Rd.i64b (hf 11 _ rfl)
  obtain ⟨pa, pc, ps, h12, p1, p2, p3⟩ := Rd.pints (hf 12 _ rfl)
  obtain ⟨oa, oc, os, h13, o1⟩ := Rd.ops (hf 13 _ rfl)
  obtain ⟨va, vc, vs, h14, v1, v2, v3⟩ := Rd.vec (hf 14 _ rfl)
  obtain ⟨ha, hc, hs, h15, q1, q2, q3⟩ := Rd.hits (hf 15 _ rfl)
  have hl' : cs.length = 16 := hl.trans (by kernel_rfl)
  match cs, hl' with
  | [u0, u1, u2, u3, u4, u5, u6, u7, u8, u9, u10, u11, u12, u13, u14, u15], _ =>
    have h0' : [u0] = [Value.int .u8 x0] := h0
    have h1' : [u1] = [Value.int .u64 x1] := h1
    have h2' : [u2] = [Value.int .u64 x2] := h2
    have h3' : [u3] = [Value.int .u64 x3] := h3
    have h4' : [u4] = [Value.int .u64 x4] := h4
    have h5' : [u5] = [Value.int .u64 x5] := h5
    have h6' : [u6] = [Value.int .u64 x6] := h6
    have h7' : [u7] = [Value.int .u64 x7] := h7
    have h8' : [u8] = [Value.int .i64 x8] := h8
    have h9' : [u9] = [Value.int .i64 x9] := h9
    have h10' : [u10] = [Value.int .i64 x10] := h10
    have h11' : [u11] = [Value.int .i64 x11] := h11
    have h12' : [u12] = [Value.slice pa ps.length pc] := h12
    have h13' : [u13] = [Value.slice oa os.length oc] := h13
    have h14' : [u14] = [Value.slice va vs.length vc] := h14
    have h15' : [u15] = [Value.slice ha hs.length hc] := h15
    simp only [List.cons.injEq, and_true] at h0' h1' h2' h3' h4' h5' h6' h7' h8' h9' h10' h11' h12' h13' h14' h15'
    subst h0' h1' h2' h3' h4' h5' h6' h7' h8' h9' h10' h11' h12' h13' h14' h15'
    exact ⟨⟨x0, x1, x2, x3, x4, x5, x6, x7, x8, x9, x10, x11, pa, pc, ps, oa, oc, os, va, vc, vs, ha, hc, hs⟩, rfl, ⟨p3, ⟨o1.1.1, o1.1.2⟩, v3, q1, fun x hx => (q3 x hx).1⟩, ⟨p1, o1.2.1, v1, fun x hx => (q3 x hx).2, p2, o1.2.2, v2, q2⟩, ⟨k0, k1.1, k3.1, k5.1, k4.1⟩, ⟨k0, k1, k2, k3, k4, k5, k6, k7, k8.2, k9.2, k10.2, k11.2⟩⟩
end Go.Proofs.YtiampehfpgcogaaDoor
namespace Go.Proofs.YtiampehfpgcogaaDoor
open Go Go.SX Go.ChangeShapes Go.WideShapes Go.ChangeAt Go.RowKit
abbrev sortD {H : Type} (p : ST) : DataW H := .agg [.lit (.string p.1), .lit (.int .i64 (p.2 : Int))]
theorem laid_is {H : Type} : (Rows.laid_armillary_note_sorts : DataW H) = .agg (sortsT.map sortD) := by kernel_rfl
theorem flat_of {α : Type} {g : α → List Value} {sz : Nat} (hg : ∀ x, (g x).length = sz) (h0 : 0 < sz) {l : List α} {cs : List Value} (hl : cs.length = l.length * sz) (h : ∀ i x, l[i]? = some x → (cs.drop (i * sz)).take sz = g x) : cs = l.flatMap g := by
  have hlen : (l.flatMap g).length = l.length * sz := by
    clear hl h
    induction l with
    | nil => simp
    | cons y l ih => rw [List.flatMap_cons, List.length_append, ih, hg, List.length_cons, Nat.succ_mul, Nat.add_comm]
  apply List.ext_getElem?
  intro k
  by_cases hk : k < l.length * sz
  · have hi : k / sz < l.length := (Nat.div_lt_iff_lt_mul h0).2 hk
    have hr : k % sz < sz := Nat.mod_lt _ h0
    have e : k = k / sz * sz + k % sz := by rw [Nat.mul_comm]; exact (Nat.div_add_mod k sz).symm
    obtain ⟨x, hx⟩ := mem_get hi
    have h1 := h _ x hx
    have h2 : (g x)[k % sz]? = cs[k]? := by
      rw [← h1, List.getElem?_take_of_lt hr, List.getElem?_drop, ← e]
    have h3 : k % sz < (g x).length := by rw [hg]; exact hr
    have h4 := flat_get hg l (k / sz) (k % sz) x _ hx (List.getElem?_eq_getElem h3)
    rw [← e] at h4
    rw [h4, ← h2, List.getElem?_eq_getElem h3]
  · rw [List.getElem?_eq_none (by omega), List.getElem?_eq_none (by omega)]
theorem gSorts : Tryd.prog.globalNamed "armillary/note.sorts" = some 0 := by kernel_rfl
theorem gSortsT : (Tryd.prog.globals[0]?).map (·.type) = some 107 := by kernel_rfl
theorem cellsS : Tryd.prog.cellsOf 87 = 2 := by kernel_rfl
theorem cellsSA : Tryd.prog.cellsOf 107 = 46 := by kernel_rfl
theorem cellsStr : Tryd.prog.cellsOf 9 = 1 := by kernel_rfl
theorem cellsInt : Tryd.prog.cellsOf 3 = 1 := by kernel_rfl
theorem sort_cells {W : World} {fuel : Nat} {cs : List Value} {p : ST} {q : List MemPlace} (h : DataW.trod (fun _ => ()) Tryd.prog W 0 (fun _ => true) false fuel 87 cs = some (sortD p, q)) : cs = ST.cells p := by
  obtain ⟨y0, y1, n, e, hl, h0, h1⟩ := trod_struct2 Tryd.underlying87 h
  rw [cellsS] at hl
  dsimp only at h0 h1
  rw [cellsStr] at h0
  rw [cellsInt] at h1
  have e' := congrArg Prod.fst e
  simp only [DataW.agg.injEq, List.cons.injEq, and_true] at e'
  obtain ⟨s, hs, hy0, _⟩ := DataW.trod_string Tryd.underlying9 h0
  obtain ⟨z, hz, hy1, _⟩ := DataW.trod_int Tryd.underlying3 h1
  subst hy0 hy1
  simp only [DataW.lit.injEq, Lit.string.injEq, Lit.int.injEq, true_and] at e'
  match cs, hl with
  | [u, v], _ =>
    have hs' : [u] = [Value.string s] := hs
    have hz' : [v] = [Value.int .i64 z] := hz
    simp only [List.cons.injEq, and_true] at hs' hz'
    subst hs' hz'
    have : str p.1 = Value.string s := by
      unfold str
      rw [e'.1]
    rw [← e'.2, ← this]
theorem tab_of_laid {W : World} (h : laidMet Tryd.prog [("armillary/note.sorts", Rows.laid_armillary_note_sorts)] W) : TabM (all0 W) := by
  obtain ⟨ps, ⟨g', t', cs, fuel, p, q, hg', ht', hvar, hd, _, _⟩, _⟩ := h
  obtain rfl := Option.some.inj (gSorts.symm.trans hg')
  obtain rfl := Option.some.inj (gSortsT.symm.trans ht')
  rw [laid_is] at hd
  obtain ⟨xs, m, _, e, hl, hxl, hx⟩ := DataW.trod_array Tryd.underlying107 hd
  rw [cellsSA] at hl
  have e1 := congrArg Prod.fst e
  simp only [DataW.agg.injEq] at e1
  have hcs : cs.toList = sortsC := by
    refine flat_of (g := ST.cells) (sz := 2) (fun _ => rfl) (by decide) (hl.trans (by decide)) (fun i x hi => ?_)
    have hi' : i < 23 := (List.getElem?_eq_some_iff.1 hi).1
    have h1 := hx i hi'
    rw [cellsS] at h1
    obtain ⟨y, hy⟩ := mem_get (l := xs) (by rw [hxl]; exact hi')
    rw [hy] at h1
    have h2 : (xs.map (·.1))[i]? = some y.1 := by rw [List.getElem?_map, hy]; rfl
    rw [← e1, List.getElem?_map, hi] at h2
    have h3 := Option.some.inj h2
    exact sort_cells (p := x) (q := y.2) (by rw [h1, show sortD x = y.1 from h3])
  unfold World.var? at hvar
  rw [gSorts] at hvar
  simp only [Option.bind_some] at hvar
  refine ⟨by decide, .inr ⟨0, 0, ?_⟩⟩
  cases hb : W.heap[0]? with
  | none => rw [hb] at hvar; cases hvar
  | some o =>
    rw [hb] at hvar
    cases o with
    | cells l t fz =>
      dsimp only at hvar
      cases hvar
      refine ⟨cs, t, fz, rfl, hb, fun j v hv => ?_⟩
      rw [← hcs] at hv
      rw [Nat.zero_add]
      simpa using hv
    | _ => cases hvar
end Go.Proofs.YtiampehfpgcogaaDoor
namespace Go.Proofs.YtiampehfpgcogaaDoor
open Go Go.SX
attribute [local irreducible] swp opsS thenS blockS retS CallsS St Ent YieldS anyS drawS
structure TR where
  txn : Int
  batch : Int
  stamp : Int
  after : Int
  who : Int
  parts : List Int
  yes : List Int
  acked : List Int
  ops : VL
structure TV where
  txn : Int
  batch : Int
  stamp : Int
  after : Int
  who : Int
  pa : Option Addr
  pc : Nat
  parts : List Int
  ya : Option Addr
  yc : Nat
  yes : List Int
  ka : Option Addr
  kc : Nat
  acked : List Int
  oa : Option Addr
  oc : Nat
  ops : List OV
abbrev TV.abs (t : TV) : TR := ⟨t.txn, t.batch, t.stamp, t.after, t.who, t.parts, t.yes, t.acked, t.ops.map OV.abs⟩
abbrev TV.cells (t : TV) : List Value := [.int .u64 t.txn, .int .u64 t.batch, .int .u64 t.stamp, .int .u64 t.after, .int .i64 t.who, .slice t.pa t.parts.length t.pc, .slice t.ya t.yes.length t.yc, .slice t.ka t.acked.length t.kc, .slice t.oa t.ops.length t.oc]
structure JG where
  shards : Int
  dim : Int
  epoch : Int
  seq : Int
  last : Int
  tr : List (Int × TR)
  done : List (Int × Int)
structure okT (M : Nat → Option Obj) (t : TV) : Prop where
  p : SlM M t.pa t.parts.length 1 (t.parts.map I64)
  y : SlM M t.ya t.yes.length 1 (t.yes.map I64)
  k : SlM M t.ka t.acked.length 1 (t.acked.map I64)
  o : SlM M t.oa t.ops.length 2 (t.ops.flatMap OV.cells)
  ov : okR M t.ops
  pl : t.parts.length ≤ 1000000
  yl : t.yes.length ≤ 1000000
  kl : t.acked.length ≤ 1000000
  ol : t.ops.length ≤ 1000000
theorem okT.mono {M M' : Nat → Option Obj} {t : TV} (h : okT M t) (hl : leM M M') : okT M' t := ⟨h.p.mono hl, h.y.mono hl, h.k.mono hl, h.o.mono hl, fun o ho => (h.ov o ho).mono hl, h.pl, h.yl, h.kl, h.ol⟩
abbrev TB := Int × Nat × TV
abbrev ptT (t : Nat × TV) : Value := .pointer (some ⟨t.1, 0, none⟩)
abbrev oneT (t : Nat × TV) : HP := pt t.1 (cl t.2.cells 76)
def trsH (ts : List TB) : HP := allH (ts.map fun u => oneT u.2)
structure GQ' (M : Nat → Option Obj) (j : JG) (ts : List TB) : Prop where
  s1 : 1 ≤ j.shards
  s2 : j.shards ≤ 4
  tr : ts.map (fun u => (u.1, u.2.2.abs)) = j.tr
  ok : ∀ u ∈ ts, okT M u.2.2
theorem GQ'.mono {M M' : Nat → Option Obj} {j : JG} {ts : List TB} (h : GQ' M j ts) (hl : leM M M') : GQ' M' j ts := ⟨h.s1, h.s2, h.tr, fun u hu => (h.ok u hu).mono hl⟩
abbrev gP (p : Nat) (j : JG) (mt md : Nat) : HP := pt p (cl [.int .i64 j.shards, .int .i64 j.dim, .int .u64 j.epoch, .int .u64 j.seq, .int .u64 j.last, .map (some mt), .map (some md)] 65)
abbrev gT (mt : Nat) (ts : List TB) : HP := mpO U64 ptT mt ts
abbrev gD (md : Nat) (d : List (Int × Int)) : HP := mpO U64 U64 md d
structure GX where
  mt : Nat
  md : Nat
  ts : List TB
def jdgH (M : Nat → Option Obj) (p : Nat) (j : JG) : HP := exH fun x : GX => allH [pureH (GQ' M j x.ts), gP p j x.mt x.md, gT x.mt x.ts, trsH x.ts, gD x.md j.done]
theorem jdg_shut {p mt md : Nat} {M : Nat → Option Obj} {j : JG} {ts : List TB} {L : List HP} (h : GQ' M j ts) : Ent (gP p j mt md :: gT mt ts :: trsH ts :: gD md j.done :: L) (jdgH M p j :: L) :=
  Ent.trans (Ent.shut_pure h) (Ent.trans (Ent.shut_all (L := [_, _, _, _, _])) (Ent.shut_ex (P := fun x : GX => allH [pureH (GQ' M j x.ts), gP p j x.mt x.md, gT x.mt x.ts, trsH x.ts, gD x.md j.done]) ⟨mt, md, ts⟩))
theorem jdg_open {p : Nat} {M : Nat → Option Obj} {j : JG} {L L' : List HP} (h : ∀ mt md ts, GQ' M j ts → Ent (gP p j mt md :: gT mt ts :: trsH ts :: gD md j.done :: L) L') : Ent (jdgH M p j :: L) L' :=
  Ent.ex fun x => Ent.open_all.trans (Ent.pure fun hx => h x.mt x.md x.ts hx)
theorem jdg_mono {p : Nat} {M M' : Nat → Option Obj} {j : JG} {L : List HP} (hl : leM M M') : Ent (jdgH M p j :: L) (jdgH M' p j :: L) := jdg_open fun _ _ _ hq => jdg_shut (hq.mono hl)
theorem calls_jdg {g : FuncId} {args : List Value} {R : Value → List HP → Prop} {p : Nat} {M : Nat → Option Obj} {j : JG} {L : List HP}
    (h : ∀ mt md ts, GQ' M j ts → CallsS Tryd.prog g args (gP p j mt md :: gT mt ts :: trsH ts :: gD md j.done :: L) R) : CallsS Tryd.prog g args (jdgH M p j :: L) R :=
  CallsS.ex fun x => CallsS.all (CallsS.pure fun hx => h x.mt x.md x.ts hx)
class PickG (p : Nat) (L : List HP) (M : outParam (Nat → Option Obj)) (j : outParam JG) (L0 : outParam (List HP)) : Prop where
  ent : Ent L (jdgH M p j :: L0)
instance PickG.here {p : Nat} {M : Nat → Option Obj} {L : List HP} {j : JG} : PickG p (jdgH M p j :: L) M j L := ⟨Ent.refl _⟩
instance (priority := low) PickG.there {p : Nat} {M : Nat → Option Obj} {A : HP} {L L0 : List HP} {j : JG} [h : PickG p L M j L0] : PickG p (A :: L) M j (A :: L0) := ⟨(h.ent.cons).trans (Ent.perm (.swap _ _ _))⟩
section
variable {n : Nat} {ops rest : List Oper} {cd : Code} {Q : Post} {f : Env} {L L0 : List HP} {M : Nat → Option Obj} {j : JG}
theorem swp_jdg (p : Nat) [hp : PickG p L M j L0] (h : ∀ mt md ts, GQ' M j ts → swp Tryd.prog n cd Q f (gP p j mt md :: gT mt ts :: trsH ts :: gD md j.done :: L0)) : swp Tryd.prog n cd Q f L :=
  swp_ent hp.ent (swp_ex fun x => swp_all (swp_pure fun hx => h x.mt x.md x.ts hx))
theorem opsS_gm (p : Nat) [hp : PickG p L M j L0] {M' : Nat → Option Obj} (hl : leM M M') (hk : opsS Tryd.prog n ops rest Q f (jdgH M' p j :: L0)) : opsS Tryd.prog n ops rest Q f L := opsS_ent (hp.ent.trans (jdg_mono hl)) hk
theorem swp_gm (p : Nat) [hp : PickG p L M j L0] {M' : Nat → Option Obj} (hl : leM M M') (hk : swp Tryd.prog n cd Q f (jdgH M' p j :: L0)) : swp Tryd.prog n cd Q f L := swp_ent (hp.ent.trans (jdg_mono hl)) hk
theorem S.cg {d : Tmp} {ty : TypeId} {pos : String} {af : Array Edge} {g : FuncId} {xs : Array Operand} {ats : Array TypeId} {args : List Value} {R : Value → List HP → Prop} {M2 : Nat → Option Obj} {L1 : List HP} (p : Nat) [hp : PickG p L M j L0] [hm : PickM L0 M2 L1] [he : Enters Tryd.prog g]
    (hx : argsL f xs.toList = some args) (hc : CallsS Tryd.prog g args (jdgH M p j :: roM M2 :: L1) R) (hk : ∀ v L', R v L' → opsS Tryd.prog n ops rest Q (upd f d v) L') :
    opsS Tryd.prog n ops (⟨some d, .call ⟨.value (.func g), xs, ats⟩, ty, pos, af, none⟩ :: rest) Q f L := opsS_ent (hp.ent.trans (Ent.cons hm.ent)) (S.cr hx hc hk)
theorem S.cgn {d : Tmp} {ty : TypeId} {pos : String} {af : Array Edge} {g : FuncId} {xs : Array Operand} {ats : Array TypeId} {args : List Value} {R : Value → List HP → Prop} (p : Nat) [hp : PickG p L M j L0] [he : Enters Tryd.prog g]
    (hx : argsL f xs.toList = some args) (hc : CallsS Tryd.prog g args (jdgH M p j :: L0) R) (hk : ∀ v L', R v L' → opsS Tryd.prog n ops rest Q (upd f d v) L') :
    opsS Tryd.prog n ops (⟨some d, .call ⟨.value (.func g), xs, ats⟩, ty, pos, af, none⟩ :: rest) Q f L := opsS_ent hp.ent (S.cr hx hc hk)
end
theorem erase_perm {α : Type} : ∀ (l : List α) (k : Nat) (x : α), l[k]? = some x → l.Perm (x :: l.eraseIdx k)
  | [], k, x, h => by simp at h
  | a :: l, 0, x, h => by
    simp only [List.getElem?_cons_zero, Option.some.injEq] at h
    subst h
    exact List.Perm.refl _
  | a :: l, k + 1, x, h => by
    simp only [List.getElem?_cons_succ] at h
    exact ((erase_perm l k x h).cons a).trans (List.Perm.swap x a _)
theorem set_perm {α : Type} : ∀ (l : List α) (k : Nat) (x : α), k < l.length → (x :: l.eraseIdx k).Perm (l.set k x)
  | [], k, x, h => by simp at h
  | a :: l, 0, x, h => List.Perm.refl _
  | a :: l, k + 1, x, h => by
    simp only [List.length_cons] at h
    exact (List.Perm.swap a x _).trans ((set_perm l k x (by omega)).cons a)
theorem trs_out {ts : List TB} {k : Nat} {u : TB} (h : ts[k]? = some u) {L : List HP} : Ent (trsH ts :: L) (oneT u.2 :: trsH (ts.eraseIdx k) :: L) := by
  refine Ent.trans Ent.open_all (Ent.trans (Ent.perm ?_) (Ent.cons (Ent.shut_all (L := (ts.eraseIdx k).map fun u => oneT u.2))))
  exact ((erase_perm ts k u h).map fun u => oneT u.2).append_right L
theorem trs_in {ts : List TB} {k : Nat} (hk : k < ts.length) (u : TB) {L : List HP} : Ent (oneT u.2 :: trsH (ts.eraseIdx k) :: L) (trsH (ts.set k u) :: L) := by
  refine Ent.trans (Ent.cons Ent.open_all) (Ent.trans (Ent.perm ?_) (Ent.shut_all (L := (ts.set k u).map fun u => oneT u.2)))
  exact ((set_perm ts k u hk).map fun u => oneT u.2).append_right L
theorem trs_new (ts : List TB) (u : TB) {L : List HP} : Ent (oneT u.2 :: trsH ts :: L) (trsH (ts ++ [u]) :: L) := by
  refine Ent.trans (Ent.cons Ent.open_all) (Ent.trans (Ent.perm ?_) (Ent.shut_all (L := (ts ++ [u]).map fun u => oneT u.2)))
  have hp : (u :: ts).Perm (ts ++ [u]) := (List.perm_append_singleton u ts).symm
  exact (hp.map fun u => oneT u.2).append_right L
def homeV (s id : Int) : Int := ((IntKind.u64.wrap (id * 11400714819323198485)).fdiv (2 ^ 32)).tmod s
theorem wrap_u64_b (a : Int) : 0 ≤ IntKind.u64.wrap a ∧ IntKind.u64.wrap a < 18446744073709551616 := by
  have e : IntKind.u64.wrap a = a % 18446744073709551616 := by simp [IntKind.wrap, IntKind.bits, IntKind.signed]
  rw [e]; omega
theorem homeV_b {s : Int} (h : 1 ≤ s) (id : Int) : 0 ≤ homeV s id ∧ homeV s id < s := by
  unfold homeV
  have h1 := wrap_u64_b (id * 11400714819323198485)
  generalize IntKind.u64.wrap (id * 11400714819323198485) = w at h1
  have h2 : 0 ≤ w.fdiv (2 ^ 32) := Int.fdiv_nonneg h1.1 (by decide)
  exact ⟨Int.tmod_nonneg _ h2, Int.tmod_lt_of_pos _ (by omega)⟩
theorem Home_spec (id s : Int) (L : List HP) (h1 : 1 ≤ s) (h2 : s ≤ 4) :
    CallsS Tryd.prog 14 [.int .u64 id, .int .i64 s] L (fun r L' => r = .int .i64 (homeV s id) ∧ L' = L) := by
  refine CallsS.of_body Tryd.func14 rfl rfl rfl ?_
  refine Q.r ?_; (repeat (intro b1; refine Q.r ?_))
  refine S.y (Y.mul rfl rfl) ?_
  refine Q.r ?_; (repeat (intro b1; refine Q.r ?_))
  refine S.y (Y.shrI (b := 32) rfl rfl (by decide)) ?_
  refine Q.r ?_; (repeat (intro b1; refine Q.r ?_))
  refine S.y (Y.cvi rfl) ?_
  have es : IntKind.u64.wrap s = s := wrap_u64 (by omega) (by omega)
  rw [es]
  refine Q.r ?_; (repeat (intro b1; refine Q.r ?_))
  refine S.y (Y.rem rfl rfl (by omega)) ?_
  refine Q.r ?_; (repeat (intro b1; refine Q.r ?_))
  refine S.y (Y.cvi rfl) ?_
  have hb := homeV_b h1 id
  have eh : IntKind.i64.wrap (homeV s id) = homeV s id := wrap_i64 (by omega) (by omega)
  unfold homeV at eh
  rw [eh]
  refine Q.r ?_; (repeat (intro b1; refine Q.r ?_))
  exact N.r1 (RV.tmp rfl RV.nil) (Ent.refl _) ⟨rfl, rfl⟩
abbrev ptrG (p : Nat) : Value := .pointer (some ⟨p, 0, none⟩)
abbrev JG0 (shards dim : Int) : JG := ⟨shards, dim, 0, 0, 0, [], []⟩
theorem GNew_spec (M : Nat → Option Obj) (s dim : Int) (L : List HP) (s1 : 1 ≤ s) (s2 : s ≤ 4) (h1 : 1 ≤ dim) (h2 : dim ≤ 8) :
    CallsS Tryd.prog 6 [.int .i64 s, .int .i64 dim] L (fun r L' => ∃ p, r = .tuple #[ptrG p, .int .i64 0] ∧ L' = jdgH M p (JG0 s dim) :: L) := by
  refine CallsS.of_body Tryd.func6 rfl rfl rfl ?_
  refine Q.r ?_; (repeat (intro b1; refine Q.r ?_))
  refine S.mkm U64 ptT (fun mt => ?_)
  refine Q.r ?_; (repeat (intro b1; refine Q.r ?_))
  refine S.mkm U64 U64 (fun md => ?_)
  refine Q.r ?_; (repeat (intro b1; refine Q.r ?_))
  refine N.r2 (RV.tmp rfl (RV.tmp rfl RV.nil)) ?_ ⟨b1, rfl, rfl⟩
  refine Ent.trans (M := gP b1 (JG0 s dim) mt md :: gT mt [] :: gD md [] :: L) (by exact Go.SX.Ent.go) ?_
  refine Ent.trans ?_ (jdg_shut (p := b1) (mt := mt) (md := md) (j := JG0 s dim) (ts := []) ⟨s1, s2, rfl, fun u hu => by cases hu⟩)
  refine Ent.cons (Ent.cons ?_)
  exact Ent.trans (Ent.perm (List.Perm.refl _)) (Ent.shut_all (L := []))
theorem GDone_spec (M : Nat → Option Obj) (p : Nat) (j : JG) (t : Int) (L : List HP) :
    CallsS Tryd.prog 10 [ptrG p, .int .u64 t] (jdgH M p j :: L) (fun r L' => r = .tuple #[.int .u64 ((lkL j.done t).getD 0), .bool (lkL j.done t).isSome] ∧ L' = jdgH M p j :: L) := by
  refine calls_jdg fun mt md ts hq => ?_
  refine CallsS.of_body Tryd.func10 rfl rfl rfl ?_
  refine Q.r ?_; (repeat (intro b1; refine Q.r ?_))
  refine S.y (Y.lk true rfl rfl (fun w => Tryd.zeroValue30 w)) ?_
  cases hz : lkL j.done t with
  | none =>
    dsimp only
    refine Q.r ?_; (repeat (intro b1; refine Q.r ?_))
    exact N.r2 (RV.tmp rfl (RV.tmp rfl RV.nil)) (jdg_shut hq) ⟨rfl, rfl⟩
  | some s =>
    dsimp only
    refine Q.r ?_; (repeat (intro b1; refine Q.r ?_))
    exact N.r2 (RV.tmp rfl (RV.tmp rfl RV.nil)) (jdg_shut hq) ⟨rfl, rfl⟩
theorem GLast_spec (M : Nat → Option Obj) (p : Nat) (j : JG) (L : List HP) :
    CallsS Tryd.prog 11 [ptrG p] (jdgH M p j :: L) (fun r L' => r = .int .u64 j.last ∧ L' = jdgH M p j :: L) := by
  refine calls_jdg fun mt md ts hq => ?_
  refine CallsS.of_body Tryd.func11 rfl rfl rfl ?_
  refine Q.r ?_; (repeat (intro b1; refine Q.r ?_))
  exact N.r1 (RV.tmp rfl RV.nil) (jdg_shut hq) ⟨rfl, rfl⟩
theorem Ghome_spec (p : Nat) (j : JG) (mt md : Nat) (id : Int) (L : List HP) (s1 : 1 ≤ j.shards) (s2 : j.shards ≤ 4) :
    CallsS Tryd.prog 48 [ptrG p, .int .u64 id] (gP p j mt md :: L) (fun r L' => r = .int .i64 (homeV j.shards id + 1) ∧ L' = gP p j mt md :: L) := by
  refine CallsS.of_body Tryd.func48 rfl rfl rfl ?_
  have hb := homeV_b s1 id
  refine Q.r ?_; (repeat (intro b1; refine Q.r ?_))
  refine S.cr rfl (Home_spec id j.shards _ s1 s2) ?_
  rintro _ _ ⟨rfl, rfl⟩
  refine Q.r ?_; (repeat (intro b1; refine Q.r ?_))
  exact N.r1 (RV.tmp rfl RV.nil) (Ent.refl _) ⟨congrArg (Value.int .i64) (Int.add_comm _ _), rfl⟩
abbrev decM (p txn stamp code : Int) : Int × NA := (p, { NA.zero with kind := 5, txn := txn, stamp := stamp, code := code })
abbrev repM (to batch stamp code : Int) : Int × NA := (to, { NA.zero with kind := 2, batch := batch, stamp := stamp, code := code })
abbrev goneN (txn : Int) : NA := { NA.zero with kind := 22, txn := txn }
theorem Greply_spec (to b s c : Int) (L : List HP) :
    CallsS Tryd.prog 35 [.int .i64 to, .int .u64 b, .int .u64 s, .int .i64 c] L (fun r L' => r = .agg (mailC (repM to b s c)).toArray ∧ L' = L) := by
  refine CallsS.of_body Tryd.func35 rfl rfl rfl ?_
  refine Q.r ?_; (repeat (intro b1; refine Q.r ?_))
  exact N.r1 (by apply RV.cellN; rfl; exact RdC.row; rfl; exact RV.nil) (Ent.drop (Ent.refl _)) ⟨rfl, rfl⟩
theorem Ggone_spec (t : Nat × TV) (L : List HP) :
    CallsS Tryd.prog 38 [ptT t] (oneT t :: L) (fun r L' => ∃ b, r = .slice (some ⟨b, 0, none⟩) 1 1 ∧ L' = slO 39 16 (some ⟨b, 0, none⟩) 1 1 (goneN t.2.txn).nv.cells :: oneT t :: L) := by
  refine CallsS.of_body Tryd.func38 rfl rfl rfl ?_
  refine Q.r ?_; (repeat (intro b1; refine Q.r ?_))
  refine N.r1 (RV.tmp rfl RV.nil) ?_ ⟨b1, rfl, rfl⟩
  refine Ent.trans ?_ (slO_fold rfl)
  exact Go.SX.Ent.go
theorem GlastOf_spec (t : Nat × TV) (a : Option Addr) (l c : Nat) (L : List HP) (hl : l ≤ 1000000) (h2 : t.2.parts.length ≤ 1000000) :
    CallsS Tryd.prog 40 [ptT t, .slice a l c] (oneT t :: L) (fun r L' => r = .bool (decide (l + 1 = t.2.parts.length)) ∧ L' = oneT t :: L) := by
  refine CallsS.of_body Tryd.func40 rfl rfl rfl ?_
  refine Q.r ?_; (repeat (intro b1; refine Q.r ?_))
  refine N.r1 (RV.tmp rfl RV.nil) (Ent.refl _) ⟨congrArg Value.bool ?_, rfl⟩
  rw [Bool.eq_iff_iff]
  simp only [decide_eq_true_eq]
  omega
theorem IndexP_spec (a : Option Addr) (c : Nat) (xs : List Int) (x : Int) (A : List HP) (h : RdS A a xs.length 1 (xs.map I64)) (hn : xs.length ≤ 1000000) :
    CallsS Tryd.prog 47 [.slice a xs.length c, .int .i64 x] A (fun r L' => ((∃ k : Nat, k < xs.length ∧ xs[k]? = some x ∧ r = .int .i64 k) ∨ (x ∉ xs ∧ r = .int .i64 (-1))) ∧ L' = A) := by
  refine CallsS.of_body Tryd.func47 rfl rfl rfl ?_
  refine Q.r ?_; (repeat (intro b1; refine Q.r ?_))
  refine swp_loop (σ := Nat) (fun k => [(0, .slice a xs.length c), (1, .int .i64 x), (7, .int .i64 xs.length), (8, .int .i64 k)])
    (fun _ => A) (fun k => k ≤ xs.length ∧ x ∉ xs.take k) (fun k => xs.length - k) 0 ⟨rfl, rfl, rfl, rfl, trivial⟩ (Ent.refl _) ⟨Nat.zero_le _, by simp⟩ ?_
  rintro k ⟨hk, hx⟩
  by_cases hlt : k < xs.length
  · obtain ⟨q, hq⟩ := mem_get hlt
    obtain ⟨b, oo, hia, hr⟩ := RdS.elem (g := fun z : Int => [I64 z]) (fun _ => rfl) (by rw [flat_I64]; exact h) hq rfl
    rw [hia]
    by_cases he : x = q
    · subst he
      refine Q.r ?_; (repeat (intro b1; refine Q.r ?_))
      exact N.r1 (RV.tmp rfl RV.nil) (Ent.refl _) ⟨.inl ⟨k, hlt, hq, rfl⟩, rfl⟩
    · refine Q.r ?_; (repeat (intro b1; refine Q.r ?_))
      refine ⟨k + 1, ⟨rfl, rfl, rfl, rfl, trivial⟩, Ent.refl _, ⟨by omega, ?_⟩, by omega⟩
      rw [take_snoc hq, List.mem_append, List.mem_singleton]
      exact fun h => h.elim hx he
  · have hke : k = xs.length := by omega
    subst hke
    rw [List.take_length] at hx
    refine Q.r ?_; (repeat (intro b1; refine Q.r ?_))
    exact N.r1 (RV.tmp rfl RV.nil) (Ent.refl _) ⟨.inr ⟨hx, rfl⟩, rfl⟩
theorem ContainsP_spec (a : Option Addr) (c : Nat) (xs : List Int) (x : Int) (A : List HP) (h : RdS A a xs.length 1 (xs.map I64)) (hn : xs.length ≤ 1000000) :
    CallsS Tryd.prog 29 [.slice a xs.length c, .int .i64 x] A (fun r L' => r = .bool (decide (x ∈ xs)) ∧ L' = A) := by
  refine CallsS.of_body Tryd.func29 rfl rfl rfl ?_
  refine Q.r ?_; (repeat (intro b1; refine Q.r ?_))
  refine S.cr rfl (IndexP_spec a c xs x _ h hn) ?_
  rintro _ _ ⟨⟨k, hk, hx, rfl⟩ | ⟨hx, rfl⟩, rfl⟩
  · have hm : x ∈ xs := List.mem_of_getElem? hx
    refine Q.r ?_; (repeat (intro b1; refine Q.r ?_))
    refine N.r1 (RV.tmp rfl RV.nil) (Ent.refl _) ⟨congrArg Value.bool ?_, rfl⟩
    rw [decide_eq_true hm]
    exact decide_eq_true (by omega)
  · refine Q.r ?_; (repeat (intro b1; refine Q.r ?_))
    refine N.r1 (RV.tmp rfl RV.nil) (Ent.refl _) ⟨congrArg Value.bool ?_, rfl⟩
    rw [decide_eq_false hx]
    rfl
theorem Gdecide_spec (txn stamp code : Int) (a : Option Addr) (c : Nat) (ps : List Int) (A : List HP) (h : RdS A a ps.length 1 (ps.map I64)) (hn : ps.length ≤ 1000000) :
    CallsS Tryd.prog 31 [.int .u64 txn, .int .u64 stamp, .int .i64 code, .slice a ps.length c] A (fun r L' => ∃ a' c', r = .slice a' ps.length c' ∧ L' = slO 49 17 a' ps.length c' ((ps.map fun p => decM p txn stamp code).flatMap mailC) :: A) := by
  refine CallsS.of_body Tryd.func31 rfl rfl rfl ?_
  refine Q.r ?_; (repeat (intro b1; refine Q.r ?_))
  refine swp_loop (σ := Nat × Option Addr × Nat × List (Int × NA)) (fun s => [(0, .int .u64 txn), (1, .int .u64 stamp), (2, .int .i64 code), (12, .slice a ps.length c), (13, .int .i64 ps.length), (9, .slice s.2.1 s.2.2.2.length s.2.2.1), (14, .int .i64 s.1)])
    (fun s => slO 49 17 s.2.1 s.2.2.2.length s.2.2.1 (s.2.2.2.flatMap mailC) :: A)
    (fun s => s.1 ≤ ps.length ∧ s.2.2.2 = (ps.take s.1).map fun p => decM p txn stamp code) (fun s => ps.length - s.1) (0, none, 0, []) ⟨rfl, rfl, rfl, rfl, rfl, rfl, rfl, trivial⟩ slO_nil ⟨by omega, by simp⟩ ?_
  rintro ⟨k, a3, c3, us⟩ ⟨hk, hus⟩
  dsimp only at hk hus ⊢
  have hul : us.length = k := by rw [hus, List.length_map, List.length_take]; omega
  by_cases hlt : k < ps.length
  · obtain ⟨q, hq⟩ := mem_get hlt
    have hrs : RdS (slO 49 17 a3 us.length c3 (us.flatMap mailC) :: A) a ps.length 1 (ps.flatMap fun z : Int => [I64 z]) := by rw [flat_I64]; exact h.sub
    obtain ⟨b, oo, hia, hr⟩ := RdS.elem (g := fun z : Int => [I64 z]) (fun _ => rfl) hrs hq rfl
    clear hrs
    rw [hia]
    refine Q.r ?_; (repeat (intro b1; refine Q.r ?_))
    refine S.app rfl rfl (SrcS.sl RdC.row (by rfl) (by rfl)) (by rfl) (by omega) (by omega) (fun a7 c7 => ?_)
    refine Q.r ?_; (repeat (intro b1; refine Q.r ?_))
    refine ⟨(k + 1, a7, c7, us ++ [decM q txn stamp code]), ⟨rfl, rfl, rfl, rfl, rfl, congrArg some (by simp), rfl, trivial⟩, ?_, ⟨by dsimp only; omega, ?_⟩, by dsimp only; omega⟩
    · dsimp only
      rw [len_snoc, flat_snoc]
      exact Go.SX.Ent.go
    · dsimp only
      rw [take_snoc hq, List.map_append, ← hus]
      rfl
  · have hke : k = ps.length := by omega
    subst hke
    rw [List.take_length] at hus
    subst hus
    refine Q.r ?_; (repeat (intro b1; refine Q.r ?_))
    rw [List.length_map]
    exact N.r1 (RV.tmp rfl RV.nil) (Ent.refl _) ⟨a3, c3, rfl, rfl⟩
abbrev toldM (t : TR) (stamp code : Int) : List (Int × NA) := (t.parts.map fun p => decM p t.txn stamp code) ++ [repM t.who t.batch stamp code]
theorem Gtold_spec (t : Nat × TV) (stamp code : Int) (M : Nat → Option Obj) (L : List HP) (ht : okT M t.2) :
    CallsS Tryd.prog 39 [ptT t, .int .u64 stamp, .int .i64 code] (oneT t :: roM M :: L) (fun r L' => ∃ a' c', r = .slice a' (t.2.parts.length + 1) c' ∧ L' = slO 49 17 a' (t.2.parts.length + 1) c' ((toldM t.2.abs stamp code).flatMap mailC) :: oneT t :: roM M :: L) := by
  refine CallsS.of_body Tryd.func39 rfl rfl rfl ?_
  have hpl := ht.pl
  refine Q.r ?_; (repeat (intro b1; refine Q.r ?_))
  refine Q.dgo [true] [12, 25, 26, 27] [] [0, 1, 2, 3, 4, 5, 6, 7, 8, 9, 10, 11, 13, 14, 15, 16, 17, 18, 19, 20, 21, 22, 23, 24, 12, 25, 26, 27, 28] ?_
  refine Q.rd ?_; (repeat (intro b1; refine Q.rd ?_))
  refine D.e rfl rfl rfl ?_
  refine S.cr rfl (Gdecide_spec t.2.txn stamp code t.2.pa t.2.pc t.2.parts _ ht.p.rd ht.pl) ?_
  rintro _ _ ⟨a1, c1, rfl, rfl⟩
  refine Q.r ?_; (repeat (intro b1; refine Q.r ?_))
  refine Q.rd ?_; (repeat (intro b1; refine Q.rd ?_))
  refine D.e rfl rfl rfl ?_
  refine S.cr rfl (Greply_spec t.2.who t.2.batch stamp code _) ?_
  rintro _ _ ⟨rfl, rfl⟩
  refine Q.r ?_; (repeat (intro b1; refine Q.r ?_))
  refine Q.rd ?_; (repeat (intro b1; refine Q.rd ?_))
  refine D.e rfl rfl rfl ?_
  refine S.app rfl rfl (SrcS.sl RdC.row (by rfl) (by rfl)) (by rfl) (by omega) (by omega) (fun a7 c7 => ?_)
  refine Q.r ?_; (repeat (intro b1; refine Q.r ?_))
  refine Q.rd ?_; (repeat (intro b1; refine Q.rd ?_))
  refine Q.r ?_; (repeat (intro b1; refine Q.r ?_))
  refine N.r1 (RV.tmp rfl RV.nil) ?_ ⟨a7, c7, rfl, rfl⟩
  unfold toldM
  rw [flat_snoc]
  exact Go.SX.Ent.go
end Go.Proofs.YtiampehfpgcogaaDoor
namespace Go.SX
open Go
def EntX (L : List HP) (F : List HP → Prop) : Prop := ∀ w G, St w (L ++ G) → ∃ L2, F L2 ∧ St w (L2 ++ G)
theorem EntX.ent {L L' : List HP} {F : List HP → Prop} (h : Ent L L') (hk : EntX L' F) : EntX L F := fun w G t => hk w G (h w G t)
theorem EntX.done {L : List HP} {F : List HP → Prop} (h : F L) : EntX L F := fun _ _ t => ⟨L, h, t⟩
theorem EntX.ex {α : Sort _} {X : α → HP} {L : List HP} {F : List HP → Prop} (h : ∀ x, EntX (X x :: L) F) : EntX (exH X :: L) F := fun w G t => let ⟨x, t⟩ := St.open_ex t; h x w G t
theorem EntX.pure {φ : Prop} {L : List HP} {F : List HP → Prop} (h : φ → EntX L F) : EntX (pureH φ :: L) F := fun w G t => let ⟨x, t⟩ := St.open_pure t; h x w G t
theorem EntX.abs (a : Option Addr) {t sz m c : Nat} {cs : List Value} {M : Nat → Option Obj} {L L0 L1 : List HP} {F : List HP → Prop} [h : PickS a L t sz m c cs L0] [h1 : PickM L0 M L1] (hk : ∀ M', leM M M' → SlM M' a m sz cs → EntX (roM M' :: L1) F) : EntX L F :=
  EntX.ent h.ent (EntX.ent Ent.absorb (EntX.ex fun M' => EntX.ent Ent.open_all (EntX.pure fun h => hk M' h.1 h.2)))
theorem CallsS.post {P : Program} {g : FuncId} {args : List Value} {L : List HP} {R R' : Value → List HP → Prop} (h : CallsS P g args L R) (hR : ∀ v L1, R v L1 → EntX L1 (R' v)) : CallsS P g args L R' := by
  intro F w t
  refine (h F w t).mono ?_
  rintro e w' ⟨v, M, rfl, t', r⟩
  obtain ⟨L2, h1, h2⟩ := hR v M r w' F t'
  exact ⟨v, L2, rfl, h2, h1⟩
end Go.SX
namespace Go.Proofs.YtiampehfpgcogaaDoor
open Go Go.SX
attribute [local irreducible] swp opsS thenS blockS retS CallsS St Ent YieldS anyS drawS
structure PG where
  rec_ : List NA
  notes : List NA
  mail : List (Int × NA)
  inst : List NA
  els : List (Int × NA)
def PG.none : PG := ⟨[], [], [], [], []⟩
def voteG (j : JG) (fr : Int) (n : NA) : PG :=
  match lkL j.tr n.txn with
  | none => PG.none
  | some t =>
    if 0 < t.stamp ∨ fr ∉ t.parts then PG.none
    else if n.code ≠ 0 then ⟨[], [goneN t.txn], toldM t 0 n.code, [], []⟩
    else if fr ∈ t.yes then PG.none
    else if t.yes.length + 1 ≠ t.parts.length then ⟨[], [{ NA.zero with kind := 20, txn := n.txn, who := fr }], [], [], []⟩
    else ⟨[{ NA.zero with kind := 17, txn := t.txn, batch := t.batch, stamp := j.last + 1, parts := t.parts }], [], toldM t (j.last + 1) 0, [goneN t.txn], toldM t 0 8⟩
def ackG (j : JG) (fr : Int) (n : NA) : PG :=
  match lkL j.tr n.txn with
  | none => PG.none
  | some t =>
    if t.stamp = 0 ∨ fr ∉ t.parts ∨ fr ∈ t.acked then PG.none
    else if t.acked.length + 1 ≠ t.parts.length then ⟨[], [{ NA.zero with kind := 21, txn := n.txn, who := fr }], [], [], []⟩
    else ⟨[{ NA.zero with kind := 18, txn := n.txn }], [], [], [], []⟩
def probeG (j : JG) (fr : Int) (n : NA) : PG :=
  match lkL j.tr n.txn with
  | none => ⟨[], [], [decM fr n.txn 0 6], [], []⟩
  | some t => if t.stamp = 0 then PG.none else ⟨[], [], [decM fr n.txn t.stamp 0], [], []⟩
def okNs (M : Nat → Option Obj) (a : Option Addr) (xs : List NV) : Prop := SlM M a xs.length 16 (xs.flatMap NV.cells) ∧ ∀ n ∈ xs, okN M n
def okMs (M : Nat → Option Obj) (a : Option Addr) (xs : List (Int × NV)) : Prop := SlM M a xs.length 17 (xs.flatMap mcells) ∧ ∀ n ∈ xs, okN M n.2
theorem okNs.mono {M M' : Nat → Option Obj} {a : Option Addr} {xs : List NV} (h : okNs M a xs) (hl : leM M M') : okNs M' a xs := ⟨h.1.mono hl, fun n hn => (h.2 n hn).mono hl⟩
theorem okMs.mono {M M' : Nat → Option Obj} {a : Option Addr} {xs : List (Int × NV)} (h : okMs M a xs) (hl : leM M M') : okMs M' a xs := ⟨h.1.mono hl, fun n hn => (h.2 n hn).mono hl⟩
theorem okNs.nil {M : Nat → Option Obj} {a : Option Addr} : okNs M a [] := ⟨SlM.nil0, fun _ h => by cases h⟩
theorem okMs.nil {M : Nat → Option Obj} {a : Option Addr} : okMs M a [] := ⟨SlM.nil0, fun _ h => by cases h⟩
theorem okMs.nv {M : Nat → Option Obj} {a : Option Addr} {l : List (Int × NA)} (h : SlM M a l.length 17 (l.flatMap mailC)) : okMs M a (l.map fun m => (m.1, m.2.nv)) := by
  refine ⟨by rw [List.length_map, List.flatMap_map]; exact h, fun n hn => ?_⟩
  obtain ⟨u, _, rfl⟩ := List.mem_map.1 hn
  exact okN.nv u.2
theorem okNs.nv {M : Nat → Option Obj} {a : Option Addr} {l : List NA} (h : SlM M a l.length 16 (l.flatMap fun r => r.nv.cells)) : okNs M a (l.map NA.nv) := by
  refine ⟨by rw [List.length_map, List.flatMap_map]; exact h, fun n hn => ?_⟩
  obtain ⟨u, _, rfl⟩ := List.mem_map.1 hn
  exact okN.nv u
def planGR (M : Nat → Option Obj) (p : Nat) (j : JG) (pl : PG) (L : List HP) (r : Value) (L' : List HP) : Prop := ∃ (a1 : Option Addr) (c1 : Nat) (rs : List NV) (a2 : Option Addr) (c2 : Nat) (ns : List NV) (a3 : Option Addr) (c3 : Nat) (ms : List (Int × NV)) (a4 : Option Addr) (c4 : Nat) (is : List NV) (a5 : Option Addr) (c5 : Nat) (es : List (Int × NV)) (M' : Nat → Option Obj),
  r = .agg #[.slice a1 rs.length c1, .slice a2 ns.length c2, .slice a3 ms.length c3, .slice a4 is.length c4, .slice a5 es.length c5] ∧ leM M M' ∧
  (okNs M' a1 rs ∧ okNs M' a2 ns ∧ okMs M' a3 ms ∧ okNs M' a4 is ∧ okMs M' a5 es) ∧
  (rs.map NV.abs = pl.rec_ ∧ ns.map NV.abs = pl.notes ∧ ms.map (fun m => (m.1, m.2.abs)) = pl.mail ∧ is.map NV.abs = pl.inst ∧ es.map (fun m => (m.1, m.2.abs)) = pl.els) ∧
  L' = jdgH M' p j :: roM M' :: L
def planGR0 (M : Nat → Option Obj) (p : Nat) (j : JG) (pl : PG) (L : List HP) (r : Value) (L' : List HP) : Prop := ∃ (a1 : Option Addr) (c1 : Nat) (rs : List NV) (a2 : Option Addr) (c2 : Nat) (ns : List NV) (a3 : Option Addr) (c3 : Nat) (ms : List (Int × NV)) (a4 : Option Addr) (c4 : Nat) (is : List NV) (a5 : Option Addr) (c5 : Nat) (es : List (Int × NV)) (M' : Nat → Option Obj),
  r = .agg #[.slice a1 rs.length c1, .slice a2 ns.length c2, .slice a3 ms.length c3, .slice a4 is.length c4, .slice a5 es.length c5] ∧ leM M M' ∧
  ((∀ n ∈ rs, okN M' n) ∧ (∀ n ∈ ns, okN M' n) ∧ (∀ n ∈ ms, okN M' n.2) ∧ (∀ n ∈ is, okN M' n) ∧ ∀ n ∈ es, okN M' n.2) ∧
  (rs.map NV.abs = pl.rec_ ∧ ns.map NV.abs = pl.notes ∧ ms.map (fun m => (m.1, m.2.abs)) = pl.mail ∧ is.map NV.abs = pl.inst ∧ es.map (fun m => (m.1, m.2.abs)) = pl.els) ∧
  L' = slO 39 16 a1 rs.length c1 (rs.flatMap NV.cells) :: slO 39 16 a2 ns.length c2 (ns.flatMap NV.cells) :: slO 49 17 a3 ms.length c3 (ms.flatMap mcells) :: slO 39 16 a4 is.length c4 (is.flatMap NV.cells) :: slO 49 17 a5 es.length c5 (es.flatMap mcells) :: jdgH M' p j :: roM M' :: L
theorem planGR.of0 {M : Nat → Option Obj} {p : Nat} {j : JG} {pl : PG} {L : List HP} {r : Value} {L' : List HP} (h : planGR0 M p j pl L r L') : EntX L' (planGR M p j pl L r) := by
  obtain ⟨a1, c1, rs, a2, c2, ns, a3, c3, ms, a4, c4, is, a5, c5, es, M0, rfl, hl, ⟨o1, o2, o3, o4, o5⟩, ab, rfl⟩ := h
  refine EntX.abs a1 (fun M1 l1 s1 => ?_)
  refine EntX.abs a2 (fun M2 l2 s2 => ?_)
  refine EntX.abs a3 (fun M3 l3 s3 => ?_)
  refine EntX.abs a4 (fun M4 l4 s4 => ?_)
  refine EntX.abs a5 (fun M5 l5 s5 => ?_)
  have l45 := l5
  have l35 := l4.trans l45
  have l25 := l3.trans l35
  have l15 := l2.trans l25
  have l05 := l1.trans l15
  refine EntX.ent (Ent.trans (M := jdgH M0 p j :: roM M5 :: L) (by exact Go.SX.Ent.go) (jdg_mono l05)) (EntX.done ?_)
  exact ⟨a1, c1, rs, a2, c2, ns, a3, c3, ms, a4, c4, is, a5, c5, es, M5, rfl, hl.trans l05, ⟨⟨s1.mono l15, fun n hn => (o1 n hn).mono l05⟩, ⟨s2.mono l25, fun n hn => (o2 n hn).mono l05⟩, ⟨s3.mono l35, fun n hn => (o3 n hn).mono l05⟩, ⟨s4.mono l45, fun n hn => (o4 n hn).mono l05⟩, ⟨s5, fun n hn => (o5 n hn).mono l05⟩⟩, ab, rfl⟩
theorem nvm_abs {l : List (Int × NA)} (h : ∀ m ∈ l, m.2.nv.abs = m.2) : (l.map fun m => (m.1, m.2.nv)).map (fun m : Int × NV => (m.1, m.2.abs)) = l := by
  rw [List.map_map]
  refine (List.map_congr_left fun m hm => ?_).trans (List.map_id l)
  show (m.1, m.2.nv.abs) = m
  rw [h m hm]
theorem toldM_abs (t : TR) (s c : Int) : ∀ m ∈ toldM t s c, m.2.nv.abs = m.2 := by
  intro m hm
  unfold toldM at hm
  rcases List.mem_append.1 hm with h | h
  · obtain ⟨q, _, rfl⟩ := List.mem_map.1 h; rfl
  · rw [List.mem_singleton] at h; subst h; rfl
theorem toldM_len (t : TR) (s c : Int) : (toldM t s c).length = t.parts.length + 1 := by
  unfold toldM; rw [List.length_append, List.length_map]; rfl
theorem planGR.none (M : Nat → Option Obj) (p : Nat) (j : JG) (L : List HP) : planGR M p j PG.none L (.agg #[.slice none 0 0, .slice none 0 0, .slice none 0 0, .slice none 0 0, .slice none 0 0]) (jdgH M p j :: roM M :: L) :=
  ⟨Option.none, 0, [], Option.none, 0, [], Option.none, 0, [], Option.none, 0, [], Option.none, 0, [], M, rfl, leM.refl M, ⟨okNs.nil, okNs.nil, okMs.nil, okNs.nil, okMs.nil⟩, ⟨rfl, rfl, rfl, rfl, rfl⟩, rfl⟩
theorem planGR0.none (M : Nat → Option Obj) (p : Nat) (j : JG) (L : List HP) : planGR0 M p j PG.none L (.agg #[.slice none 0 0, .slice none 0 0, .slice none 0 0, .slice none 0 0, .slice none 0 0]) (slO 39 16 Option.none 0 0 [] :: slO 39 16 Option.none 0 0 [] :: slO 49 17 Option.none 0 0 [] :: slO 39 16 Option.none 0 0 [] :: slO 49 17 Option.none 0 0 [] :: jdgH M p j :: roM M :: L) :=
  ⟨Option.none, 0, [], Option.none, 0, [], Option.none, 0, [], Option.none, 0, [], Option.none, 0, [], M, rfl, leM.refl M, ⟨fun _ h => (by cases h), fun _ h => (by cases h), fun _ h => (by cases h), fun _ h => (by cases h), fun _ h => (by cases h)⟩, ⟨rfl, rfl, rfl, rfl, rfl⟩, rfl⟩
theorem nil5 {L : List HP} : Ent L (slO 39 16 none 0 0 [] :: slO 39 16 none 0 0 [] :: slO 49 17 none 0 0 [] :: slO 39 16 none 0 0 [] :: slO 49 17 none 0 0 [] :: L) := by exact Go.SX.Ent.go
section
variable {n : Nat} {ops rest : List Oper} {cd : Code} {Q : Post} {f : Env} {L L0 : List HP}
theorem opsS_trs {ts : List TB} [hp : Pick (trsH ts) L L0] {k : Nat} {u : TB} (h : ts[k]? = some u) (hk : opsS Tryd.prog n ops rest Q f (oneT u.2 :: trsH (ts.eraseIdx k) :: L0)) : opsS Tryd.prog n ops rest Q f L := opsS_ent (hp.ent.trans (trs_out h)) hk
theorem swp_trs {ts : List TB} [hp : Pick (trsH ts) L L0] {k : Nat} {u : TB} (h : ts[k]? = some u) (hk : swp Tryd.prog n cd Q f (oneT u.2 :: trsH (ts.eraseIdx k) :: L0)) : swp Tryd.prog n cd Q f L := swp_ent (hp.ent.trans (trs_out h)) hk
end
theorem trs_back {ts : List TB} {k : Nat} {u : TB} (h : ts[k]? = some u) {L : List HP} : Ent (oneT u.2 :: trsH (ts.eraseIdx k) :: L) (trsH ts :: L) := by
  have hk : k < ts.length := (List.getElem?_eq_some_iff.1 h).1
  have hu : ts[k] = u := (List.getElem?_eq_some_iff.1 h).2
  have := trs_in hk u (L := L)
  rw [← hu, List.set_getElem_self] at this
  rw [← hu]
  exact this
theorem gclose {p mt md : Nat} {M : Nat → Option Obj} {j : JG} {ts : List TB} {L L0 L1 L2 L3 : List HP} [h1 : Pick (gP p j mt md) L L0] [h2 : Pick (gT mt ts) L0 L1] [h3 : Pick (trsH ts) L1 L2] [h4 : Pick (gD md j.done) L2 L3] (hq : GQ' M j ts) : Ent L (jdgH M p j :: L3) :=
  Ent.trans h1.ent (Ent.trans (Ent.cons (Ent.trans h2.ent (Ent.cons (Ent.trans h3.ent (Ent.cons h4.ent))))) (jdg_shut hq))
theorem jdg_shut1 {p mt md : Nat} {M : Nat → Option Obj} {j : JG} {ts : List TB} {k : Nat} {u : TB} {L : List HP} (hk : ts[k]? = some u) (hq : GQ' M j ts) : Ent (gP p j mt md :: gT mt ts :: oneT u.2 :: trsH (ts.eraseIdx k) :: gD md j.done :: L) (jdgH M p j :: L) :=
  Ent.trans (Ent.cons (Ent.cons (trs_back hk))) (jdg_shut hq)
theorem lk_tr {ts : List TB} {tr : List (Int × TR)} (h : ts.map (fun u => (u.1, u.2.2.abs)) = tr) (x : Int) : lkL tr x = (lkL ts x).map fun u => u.2.abs := by
  subst h
  unfold lkL
  rw [List.find?_map]
  show ((ts.find? fun p => decide (p.1 = x)).map fun u => (u.1, u.2.2.abs)).map (·.2) = _
  cases ts.find? fun p => decide (p.1 = x) <;> rfl
theorem lk_idx {ts : List TB} {x : Int} {u : Nat × TV} (h : lkL (α := Nat × TV) ts x = some u) : ∃ k : Nat, ts[k]? = some ((x, u) : TB) := by
  unfold lkL at h
  cases hf : ts.find? fun p => decide (p.1 = x) with
  | none => rw [hf] at h; cases h
  | some w =>
    rw [hf] at h
    cases h
    have h1 := List.find?_some hf
    have h2 := List.mem_of_find?_eq_some hf
    obtain ⟨k, hk⟩ := List.mem_iff_getElem?.1 h2
    refine ⟨k, ?_⟩
    rw [hk, ← of_decide_eq_true h1]
theorem Gprobe_spec (n : NV) (M : Nat → Option Obj) (p : Nat) (j : JG) (fr : Int) (L : List HP) :
    CallsS Tryd.prog 22 [ptrG p, .int .i64 fr, n.val] (jdgH M p j :: roM M :: L) (planGR M p j (probeG j fr n.abs) L) := by
  unfold probeG
  refine calls_jdg fun mt md ts hq => ?_
  refine CallsS.of_body Tryd.func22 rfl rfl rfl ?_
  refine Q.r ?_; (repeat (intro b1; refine Q.r ?_))
  rename_i b5
  revert b1
  intro b6
  refine Q.dgo [true, true, true, true, true, true, true] [] [] [0, 1, 2, 3, 4, 5, 6, 7] ?_
  refine Q.rd ?_; (repeat (intro b1; refine Q.rd ?_))
  refine D.y rfl rfl rfl (by kernel_rfl) (Y.lk false rfl rfl (fun w => Tryd.zeroValue70 w)) ?_
  rw [lk_tr hq.tr n.txn]
  cases hz : lkL (α := Nat × TV) ts n.txn with
  | none =>
    dsimp only [Option.map_none]
    refine Q.rd ?_; (repeat (intro b1; refine Q.rd ?_))
    refine Q.r ?_; (repeat (intro b1; refine Q.r ?_))
    refine opsS_ent (slO_fold (sz := 1) (m := 1) rfl) ?_
    refine opsS_abs (some ⟨b1, 0, none⟩) (fun M1 hl1 hs1 => ?_)
    refine S.cr rfl (Gdecide_spec n.txn 0 6 (some ⟨b1, 0, none⟩) 1 [fr] _ (SlM.rd (cs := [I64 fr]) hs1) (Nat.le_of_ble_eq_true rfl)) ?_
    rintro _ _ ⟨a1, c1, rfl, rfl⟩
    refine opsS_abs a1 (fun M2 hl2 hs2 => ?_)
    refine Q.r ?_; (repeat (intro b1; refine Q.r ?_))
    refine N.r1 (by apply RV.cellN; rfl; exact RdC.row; rfl; exact RV.nil) (Ent.trans (M := gP p j mt md :: gT mt ts :: trsH ts :: gD md j.done :: roM M2 :: L) (by exact Go.SX.Ent.go) (jdg_shut (hq.mono (hl1.trans hl2)))) ⟨none, 0, [], none, 0, [], a1, c1, [(fr, (decM fr n.txn 0 6).2.nv)], none, 0, [], none, 0, [], M2, rfl, hl1.trans hl2, ⟨okNs.nil, okNs.nil, okMs.nv (l := [decM fr n.txn 0 6]) hs2, okNs.nil, okMs.nil⟩, ⟨rfl, rfl, rfl, rfl, rfl⟩, rfl⟩
  | some u =>
    obtain ⟨k, hk⟩ := lk_idx hz
    dsimp only [Option.map_some]
    refine Q.rd ?_; (repeat (intro b1; refine Q.rd ?_))
    refine Q.r ?_; (repeat (intro b1; refine Q.r ?_))
    refine opsS_trs hk ?_
    by_cases hs : u.2.stamp = 0
    · rw [if_pos hs]
      refine Q.r ?_; (repeat (intro b1; refine Q.r ?_))
      exact N.r1 (by apply RV.cellN; rfl; exact RdC.row; rfl; exact RV.nil) (Ent.trans (M := gP p j mt md :: gT mt ts :: oneT u :: trsH (ts.eraseIdx k) :: gD md j.done :: roM M :: L) (by exact Go.SX.Ent.go) (jdg_shut1 hk hq)) (planGR.none M p j L)
    · rw [if_neg hs]
      refine Q.r ?_; (repeat (intro b1; refine Q.r ?_))
      refine Q.dgo [true, false, false, true] [8, 9, 11] [] [0, 1, 2, 3, 4, 5, 6, 7, 8, 9, 10, 11] ?_
      refine Q.rd ?_; (repeat (intro b1; refine Q.rd ?_))
      refine D.e rfl rfl rfl ?_
      refine opsS_ent (slO_fold (sz := 1) (m := 1) rfl) ?_
      refine opsS_abs (some ⟨b1, 0, none⟩) (fun M1 hl1 hs1 => ?_)
      refine S.cr rfl (Gdecide_spec n.txn u.2.stamp 0 (some ⟨b1, 0, none⟩) 1 [fr] _ (SlM.rd (cs := [I64 fr]) hs1) (Nat.le_of_ble_eq_true rfl)) ?_
      rintro _ _ ⟨a1, c1, rfl, rfl⟩
      refine opsS_abs a1 (fun M2 hl2 hs2 => ?_)
      refine Q.r ?_; (repeat (intro b1; refine Q.r ?_))
      refine Q.rd ?_; (repeat (intro b1; refine Q.rd ?_))
      refine Q.r ?_; (repeat (intro b1; refine Q.r ?_))
      refine N.r1 (by apply RV.cellN; rfl; exact RdC.row; rfl; exact RV.nil) (Ent.trans (M := gP p j mt md :: gT mt ts :: oneT u :: trsH (ts.eraseIdx k) :: gD md j.done :: roM M2 :: L) (by exact Go.SX.Ent.go) (jdg_shut1 hk (hq.mono (hl1.trans hl2)))) ⟨none, 0, [], none, 0, [], a1, c1, [(fr, (decM fr n.txn u.2.stamp 0).2.nv)], none, 0, [], none, 0, [], M2, rfl, hl1.trans hl2, ⟨okNs.nil, okNs.nil, okMs.nv (l := [decM fr n.txn u.2.stamp 0]) hs2, okNs.nil, okMs.nil⟩, ⟨rfl, rfl, rfl, rfl, rfl⟩, rfl⟩
theorem Gack_spec (n : NV) (M : Nat → Option Obj) (p : Nat) (j : JG) (fr : Int) (L : List HP) :
    CallsS Tryd.prog 21 [ptrG p, .int .i64 fr, n.val] (jdgH M p j :: roM M :: L) (planGR0 M p j (ackG j fr n.abs) L) := by
  unfold ackG
  refine calls_jdg fun mt md ts hq => ?_
  refine CallsS.of_body Tryd.func21 rfl rfl rfl ?_
  refine Q.r ?_; (repeat (intro b1; refine Q.r ?_))
  rename_i b5
  revert b1
  intro b6
  refine Q.dgo [true, true, true, true, true, true, true] [] [] [0, 1, 2, 3, 4, 5, 6, 7] ?_
  refine Q.rd ?_; (repeat (intro b1; refine Q.rd ?_))
  refine D.y rfl rfl rfl (by kernel_rfl) (Y.lk false rfl rfl (fun w => Tryd.zeroValue70 w)) ?_
  rw [lk_tr hq.tr n.txn]
  cases hz : lkL (α := Nat × TV) ts n.txn with
  | none =>
    dsimp only [Option.map_none]
    refine Q.rd ?_; (repeat (intro b1; refine Q.rd ?_))
    refine Q.r ?_; (repeat (intro b1; refine Q.r ?_))
    exact N.r1 (by apply RV.cellN; rfl; exact RdC.row; rfl; exact RV.nil) (Ent.trans (Ent.trans (M := gP p j mt md :: gT mt ts :: trsH ts :: gD md j.done :: roM M :: L) (by exact Go.SX.Ent.go) (jdg_shut hq)) nil5) (planGR0.none M p j L)
  | some u =>
    obtain ⟨k, hk⟩ := lk_idx hz
    have hu : okT M u.2 := hq.ok _ (List.mem_of_getElem? hk)
    have hpl := hu.pl
    have hkl := hu.kl
    dsimp only [Option.map_some]
    refine Q.rd ?_; (repeat (intro b1; refine Q.rd ?_))
    refine Q.r ?_; (repeat (intro b1; refine Q.r ?_))
    refine opsS_trs hk ?_
    by_cases hs : u.2.stamp = 0
    · rw [if_pos (.inl hs)]
      refine Q.r ?_; (repeat (intro b1; refine Q.r ?_))
      exact N.r1 (by apply RV.cellN; rfl; exact RdC.row; rfl; exact RV.nil) (Ent.trans (Ent.trans (M := gP p j mt md :: gT mt ts :: oneT u :: trsH (ts.eraseIdx k) :: gD md j.done :: roM M :: L) (by exact Go.SX.Ent.go) (jdg_shut1 hk hq)) nil5) (planGR0.none M p j L)
    refine Q.r ?_; (repeat (intro b1; refine Q.r ?_))
    refine S.cr rfl (ContainsP_spec u.2.pa u.2.pc u.2.parts fr _ hu.p.rd hpl) ?_
    rintro _ _ ⟨rfl, rfl⟩
    by_cases hc : fr ∈ u.2.parts
    case neg =>
      rw [if_pos (.inr (.inl hc)), decide_eq_false hc]
      refine Q.r ?_; (repeat (intro b1; refine Q.r ?_))
      exact N.r1 (by apply RV.cellN; rfl; exact RdC.row; rfl; exact RV.nil) (Ent.trans (Ent.trans (M := gP p j mt md :: gT mt ts :: oneT u :: trsH (ts.eraseIdx k) :: gD md j.done :: roM M :: L) (by exact Go.SX.Ent.go) (jdg_shut1 hk hq)) nil5) (planGR0.none M p j L)
    rw [decide_eq_true hc]
    refine Q.r ?_; (repeat (intro b1; refine Q.r ?_))
    refine S.cr rfl (ContainsP_spec u.2.ka u.2.kc u.2.acked fr _ hu.k.rd hkl) ?_
    rintro _ _ ⟨rfl, rfl⟩
    by_cases hd : fr ∈ u.2.acked
    · rw [if_pos (.inr (.inr hd)), decide_eq_true hd]
      refine Q.r ?_; (repeat (intro b1; refine Q.r ?_))
      exact N.r1 (by apply RV.cellN; rfl; exact RdC.row; rfl; exact RV.nil) (Ent.trans (Ent.trans (M := gP p j mt md :: gT mt ts :: oneT u :: trsH (ts.eraseIdx k) :: gD md j.done :: roM M :: L) (by exact Go.SX.Ent.go) (jdg_shut1 hk hq)) nil5) (planGR0.none M p j L)
    rw [decide_eq_false hd, if_neg (show ¬ (u.2.abs.stamp = 0 ∨ fr ∉ u.2.abs.parts ∨ fr ∈ u.2.abs.acked) from fun h => h.elim hs (fun h => h.elim (fun h => h hc) hd))]
    refine Q.r ?_; (repeat (intro b1; refine Q.r ?_))
    refine S.cr rfl (GlastOf_spec u u.2.ka u.2.acked.length u.2.kc _ hkl hpl) ?_
    rintro _ _ ⟨rfl, rfl⟩
    by_cases hl : u.2.acked.length + 1 = u.2.parts.length
    · rw [if_neg (fun h => h hl), decide_eq_true hl]
      refine Q.r ?_; (repeat (intro b1; refine Q.r ?_))
      refine N.r1 (by apply RV.cellN; rfl; exact RdC.row; rfl; exact RV.nil) (Ent.trans (M := pt b1 (cl (NA.nv { NA.zero with kind := 18, txn := n.txn }).cells 39) :: gP p j mt md :: gT mt ts :: oneT u :: trsH (ts.eraseIdx k) :: gD md j.done :: roM M :: L) (by exact Go.SX.Ent.go) (Ent.trans (Ent.cons (jdg_shut1 hk hq)) (Ent.trans (slO_fold (sz := 16) (m := 1) rfl) ?_))) ⟨some ⟨b1, 0, none⟩, 1, [NA.nv { NA.zero with kind := 18, txn := n.txn }], none, 0, [], none, 0, [], none, 0, [], none, 0, [], M, rfl, leM.refl M, ⟨fun m hm => by rw [List.mem_singleton.1 hm]; exact okN.nv _, fun _ h => (by cases h), fun _ h => (by cases h), fun _ h => (by cases h), fun _ h => (by cases h)⟩, ⟨rfl, rfl, rfl, rfl, rfl⟩, rfl⟩
      show Ent _ (slO 39 16 (some ⟨b1, 0, none⟩) 1 1 (NA.nv { NA.zero with kind := 18, txn := n.txn }).cells :: slO 39 16 none 0 0 [] :: slO 49 17 none 0 0 [] :: slO 39 16 none 0 0 [] :: slO 49 17 none 0 0 [] :: jdgH M p j :: roM M :: L)
      exact Go.SX.Ent.go
    · rw [if_pos hl, decide_eq_false hl]
      refine Q.r ?_; (repeat (intro b1; refine Q.r ?_))
      refine N.r1 (by apply RV.cellN; rfl; exact RdC.row; rfl; exact RV.nil) (Ent.trans (M := pt b1 (cl (NA.nv { NA.zero with kind := 21, txn := n.txn, who := fr }).cells 39) :: gP p j mt md :: gT mt ts :: oneT u :: trsH (ts.eraseIdx k) :: gD md j.done :: roM M :: L) (by exact Go.SX.Ent.go) (Ent.trans (Ent.cons (jdg_shut1 hk hq)) (Ent.trans (slO_fold (sz := 16) (m := 1) rfl) ?_))) ⟨none, 0, [], some ⟨b1, 0, none⟩, 1, [NA.nv { NA.zero with kind := 21, txn := n.txn, who := fr }], none, 0, [], none, 0, [], none, 0, [], M, rfl, leM.refl M, ⟨fun _ h => (by cases h), fun m hm => by rw [List.mem_singleton.1 hm]; exact okN.nv _, fun _ h => (by cases h), fun _ h => (by cases h), fun _ h => (by cases h)⟩, ⟨rfl, rfl, rfl, rfl, rfl⟩, rfl⟩
      show Ent _ (slO 39 16 none 0 0 [] :: slO 39 16 (some ⟨b1, 0, none⟩) 1 1 (NA.nv { NA.zero with kind := 21, txn := n.txn, who := fr }).cells :: slO 49 17 none 0 0 [] :: slO 39 16 none 0 0 [] :: slO 49 17 none 0 0 [] :: jdgH M p j :: roM M :: L)
      exact Go.SX.Ent.go
end Go.Proofs.YtiampehfpgcogaaDoor
namespace Go.Proofs.YtiampehfpgcogaaDoor
open Go Go.SX
abbrev homeP (s id : Int) : Int := homeV s id + 1
def putI (l : List Int) (n : Int) : List Int := l.takeWhile (fun x => decide (x < n)) ++ n :: l.dropWhile (fun x => decide (x < n))
def partsG (s : Int) (ops : VL) : List Int := ops.foldl (fun l o => if homeP s o.1 ∈ l then l else putI l (homeP s o.1)) []
def askE (j : JG) (n : NA) : Int := if checkV j.dim n.ops ≠ 0 then checkV j.dim n.ops else if 8 ≤ j.tr.length ∨ 1048575 ≤ j.seq ∨ 1099511627776 ≤ j.last then 8 else 0
abbrev newT (j : JG) (fr : Int) (n : NA) : TR := ⟨j.epoch * 1048576 + j.seq + 1, n.batch, 0, j.last, fr, partsG j.shards n.ops, [], [], n.ops⟩
abbrev beginN (t : TR) : NA := { NA.zero with kind := 19, txn := t.txn, batch := t.batch, after := t.after, who := t.who, parts := t.parts, ops := t.ops }
abbrev prepM (s : Int) (t : TR) (q : Int) : Int × NA := (q, { NA.zero with kind := 3, txn := t.txn, after := t.after, parts := t.parts, ops := t.ops.filter fun o => decide (homeP s o.1 = q) })
def askG (j : JG) (fr : Int) (n : NA) : PG :=
  match lkL j.done n.batch with
  | some s => ⟨[], [], [repM fr n.batch s 0], [], []⟩
  | none =>
    if j.tr.any (fun u => decide (u.2.batch = n.batch)) = true then PG.none
    else if askE j n ≠ 0 then ⟨[], [], [repM fr n.batch 0 (askE j n)], [], []⟩
    else ⟨[], [beginN (newT j fr n)], (newT j fr n).parts.map (prepM j.shards (newT j fr n)), [], []⟩
def planG (j : JG) (fr : Int) (n : NA) : PG :=
  if rightN n = false ∨ fr < 0 ∨ 16 ≤ fr then PG.none
  else if n.kind = 1 then askG j fr n
  else if n.kind = 4 then voteG j fr n
  else if n.kind = 6 then ackG j fr n
  else if n.kind = 7 then probeG j fr n
  else PG.none
abbrev comT (n : NA) : TR := ⟨n.txn, n.batch, 0, 0, 0, n.parts, [], [], []⟩
abbrev begT (n : NA) : TR := ⟨n.txn, n.batch, 0, n.after, n.who, n.parts, [], [], n.ops⟩
def saidE (t : TR) (n : NA) : Int :=
  if decide (0 < t.stamp) ≠ decide (n.kind = 21) then 10
  else if n.who ∉ t.parts ∨ n.who ∈ (if n.kind = 21 then t.acked else t.yes) then 1 else 0
def saidT (t : TR) (n : NA) : TR := if n.kind = 21 then { t with acked := putI t.acked n.who } else { t with yes := putI t.yes n.who }
def comE (j : JG) (n : NA) : Int := if n.stamp = 0 then 1 else match lkL j.tr n.txn with
  | some t => if 0 < t.stamp then 10 else 0
  | none => 0
def appGE (j : JG) (n : NA) : Int :=
  if rightN n = false then 4
  else if n.kind = 16 then if n.mark ≤ j.epoch then 1 else 0
  else if n.kind = 19 then if (lkL j.tr n.txn).isSome then 7 else 0
  else if n.kind = 17 then comE j n
  else if n.kind = 20 ∨ n.kind = 21 ∨ n.kind = 18 ∨ n.kind = 22 then match lkL j.tr n.txn with
    | none => 6
    | some t => if n.kind = 20 ∨ n.kind = 21 then saidE t n else if decide (0 < t.stamp) ≠ decide (n.kind = 18) then 10 else 0
  else 4
def appG (j : JG) (n : NA) : JG :=
  if appGE j n ≠ 0 then j
  else if n.kind = 16 then { j with epoch := n.mark, seq := 0, tr := j.tr.filter fun u => !decide (u.2.stamp = 0) }
  else if n.kind = 19 then { j with tr := putL j.tr n.txn (begT n), seq := if n.txn / 1048576 = j.epoch then max j.seq (n.txn % 1048576) else j.seq }
  else if n.kind = 17 then
    { j with tr := putL j.tr n.txn { (lkL j.tr n.txn).getD (comT n) with stamp := n.stamp }, done := putL j.done ((lkL j.tr n.txn).getD (comT n)).batch n.stamp, last := max j.last n.stamp }
  else if n.kind = 20 ∨ n.kind = 21 then match lkL j.tr n.txn with
    | some t => { j with tr := putL j.tr n.txn (saidT t n) }
    | none => j
  else { j with tr := delL j.tr n.txn }
theorem appGE16 {j : JG} {n : NA} (hr : rightN n = true) (hk : n.kind = 16) : appGE j n = if n.mark ≤ j.epoch then 1 else 0 := by
  unfold appGE; rw [if_neg (by rw [hr]; decide), hk, if_pos rfl]
theorem appGE19 {j : JG} {n : NA} (hr : rightN n = true) (hk : n.kind = 19) : appGE j n = if (lkL j.tr n.txn).isSome then 7 else 0 := by
  unfold appGE; rw [if_neg (by rw [hr]; decide), hk, if_neg (by decide), if_pos rfl]
theorem appGE17 {j : JG} {n : NA} (hr : rightN n = true) (hk : n.kind = 17) : appGE j n = comE j n := by
  unfold appGE; rw [if_neg (by rw [hr]; decide), hk, if_neg (by decide), if_neg (by decide), if_pos rfl]
theorem appGEw {j : JG} {n : NA} (hr : rightN n = true) (hk : n.kind = 20 ∨ n.kind = 21) : appGE j n = match lkL j.tr n.txn with
    | none => 6
    | some t => saidE t n := by
  unfold appGE
  rw [if_neg (by rw [hr]; decide), if_neg (by omega), if_neg (by omega), if_neg (by omega), if_pos (by omega)]
  cases lkL j.tr n.txn with
  | none => rfl
  | some t => dsimp only; rw [if_pos hk]
theorem appGEe {j : JG} {n : NA} (hr : rightN n = true) (hk : n.kind = 18 ∨ n.kind = 22) : appGE j n = match lkL j.tr n.txn with
    | none => 6
    | some t => if decide (0 < t.stamp) ≠ decide (n.kind = 18) then 10 else 0 := by
  unfold appGE
  rw [if_neg (by rw [hr]; decide), if_neg (by omega), if_neg (by omega), if_neg (by omega), if_pos (by omega)]
  cases lkL j.tr n.txn with
  | none => rfl
  | some t => dsimp only; rw [if_neg (by omega)]
theorem appG16 {j : JG} {n : NA} (h : appGE j n = 0) (hk : n.kind = 16) : appG j n = { j with epoch := n.mark, seq := 0, tr := j.tr.filter fun u => !decide (u.2.stamp = 0) } := by
  unfold appG; rw [if_neg (by rw [h]; decide), if_pos hk]
theorem appG19 {j : JG} {n : NA} (h : appGE j n = 0) (hk : n.kind = 19) : appG j n = { j with tr := putL j.tr n.txn (begT n), seq := if n.txn / 1048576 = j.epoch then max j.seq (n.txn % 1048576) else j.seq } := by
  unfold appG; rw [if_neg (by rw [h]; decide), if_neg (by omega), if_pos hk]
theorem appG17 {j : JG} {n : NA} (h : appGE j n = 0) (hk : n.kind = 17) : appG j n = { j with tr := putL j.tr n.txn { (lkL j.tr n.txn).getD (comT n) with stamp := n.stamp }, done := putL j.done ((lkL j.tr n.txn).getD (comT n)).batch n.stamp, last := max j.last n.stamp } := by
  unfold appG; rw [if_neg (by rw [h]; decide), if_neg (by omega), if_neg (by omega), if_pos hk]
theorem appGw {j : JG} {n : NA} (h : appGE j n = 0) (hk : n.kind = 20 ∨ n.kind = 21) {t : TR} (ht : lkL j.tr n.txn = some t) : appG j n = { j with tr := putL j.tr n.txn (saidT t n) } := by
  unfold appG; rw [if_neg (by rw [h]; decide), if_neg (by omega), if_neg (by omega), if_neg (by omega), if_pos hk, ht]
theorem appGe {j : JG} {n : NA} (h : appGE j n = 0) (hk : n.kind = 18 ∨ n.kind = 22) : appG j n = { j with tr := delL j.tr n.txn } := by
  unfold appG; rw [if_neg (by rw [h]; decide), if_neg (by omega), if_neg (by omega), if_neg (by omega), if_neg (by omega)]
theorem appGno {j : JG} {n : NA} (h : appGE j n ≠ 0) : appG j n = j := by unfold appG; rw [if_pos h]
theorem putI_mem {l : List Int} {n x : Int} : x ∈ putI l n ↔ x = n ∨ x ∈ l := by
  unfold putI
  rw [List.mem_append, List.mem_cons]
  constructor
  · rintro (h | h | h)
    · exact .inr ((List.takeWhile_sublist _).subset h)
    · exact .inl h
    · exact .inr ((List.dropWhile_sublist _).subset h)
  · rintro (h | h)
    · exact .inr (.inl h)
    · rw [← List.takeWhile_append_dropWhile (p := fun x => decide (x < n)) (l := l)] at h
      rcases List.mem_append.1 h with h | h
      · exact .inl h
      · exact .inr (.inr h)
theorem putI_len {l : List Int} {n : Int} : (putI l n).length = l.length + 1 := by
  unfold putI
  have := congrArg List.length (List.takeWhile_append_dropWhile (p := fun x => decide (x < n)) (l := l))
  rw [List.length_append] at this
  rw [List.length_append, List.length_cons]; omega
abbrev Rise (l : List Int) : Prop := l.Pairwise (· < ·)
theorem putI_rise {l : List Int} {n : Int} (h : Rise l) (hn : n ∉ l) : Rise (putI l n) := by
  unfold putI
  induction l with
  | nil => simp [Rise]
  | cons a l ih =>
    have ha := List.pairwise_cons.1 h
    have hne : n ≠ a ∧ n ∉ l := by simpa using hn
    by_cases hx : a < n
    · rw [List.takeWhile_cons_of_pos (by simpa using hx), List.dropWhile_cons_of_pos (by simpa using hx), List.cons_append]
      refine List.pairwise_cons.2 ⟨fun y hy => ?_, ih ha.2 hne.2⟩
      rcases putI_mem.1 (show y ∈ putI l n from hy) with rfl | hy
      · exact hx
      · exact ha.1 y hy
    · rw [List.takeWhile_cons_of_neg (by simpa using hx), List.dropWhile_cons_of_neg (by simpa using hx), List.nil_append]
      refine List.pairwise_cons.2 ⟨fun y hy => ?_, h⟩
      rcases List.mem_cons.1 hy with rfl | hy
      · omega
      · have := ha.1 y hy; omega
theorem rise_nodup {l : List Int} (h : Rise l) : l.Nodup := List.Pairwise.imp (fun h => by omega) h
theorem partsV_rise {l : List Int} (h : Rise l) (hb : ∀ x ∈ l, 0 ≤ x ∧ x < 16) : partsV l = true := by
  unfold partsV
  rw [List.all_eq_true]
  intro k hk
  rw [List.mem_range] at hk
  have hd : ∀ i : Nat, i < l.length → ∃ x, l[i]? = some x ∧ l.getD i 0 = x ∧ x ∈ l := fun i hi => ⟨l[i], List.getElem?_eq_getElem hi, by simp [List.getD, hi], List.getElem_mem hi⟩
  obtain ⟨x, e1, e2, e3⟩ := hd k hk
  unfold okP
  rw [e2]
  have hx := hb x e3
  simp only [Bool.and_eq_true, Bool.or_eq_true, decide_eq_true_eq]
  refine ⟨hx, ?_⟩
  by_cases h0 : k = 0
  · exact .inl h0
  · right
    obtain ⟨y, f1, f2, f3⟩ := hd (k - 1) (by omega)
    rw [f2]
    have := List.pairwise_iff_getElem.1 h (k - 1) k (by omega) hk (by omega)
    rw [List.getElem?_eq_getElem hk] at e1
    rw [List.getElem?_eq_getElem (by omega : k - 1 < l.length)] at f1
    injection e1 with e1
    injection f1 with f1
    rw [← e1, ← f1]; exact this
theorem partsG_ok {s : Int} (h1 : 1 ≤ s) (ops : VL) : Rise (partsG s ops) ∧ ∀ x ∈ partsG s ops, 1 ≤ x ∧ x ≤ s := by
  unfold partsG
  have key : ∀ (ops : VL) (l : List Int), (Rise l ∧ ∀ x ∈ l, 1 ≤ x ∧ x ≤ s) → Rise (ops.foldl (fun l o => if homeP s o.1 ∈ l then l else putI l (homeP s o.1)) l) ∧ ∀ x ∈ ops.foldl (fun l o => if homeP s o.1 ∈ l then l else putI l (homeP s o.1)) l, 1 ≤ x ∧ x ≤ s := by
    intro ops
    induction ops with
    | nil => exact fun l h => h
    | cons o ops ih =>
      intro l h
      rw [List.foldl_cons]
      refine ih _ ?_
      split
      · exact h
      · rename_i hm
        refine ⟨putI_rise h.1 hm, fun x hx => ?_⟩
        rcases putI_mem.1 hx with rfl | hx
        · have := homeV_b h1 o.1
          unfold homeP; omega
        · exact h.2 x hx
  exact key ops [] ⟨List.Pairwise.nil, fun _ h => by cases h⟩
theorem rise_len {l : List Int} {s : Int} (h : Rise l) (hb : ∀ x ∈ l, 1 ≤ x ∧ x ≤ s) (hs : 0 ≤ s) : (l.length : Int) ≤ s := by
  have key : ∀ (l : List Int) (a : Int), Rise l → (∀ x ∈ l, a ≤ x ∧ x ≤ s) → a ≤ s + 1 → (l.length : Int) ≤ s + 1 - a := by
    intro l
    induction l with
    | nil => intro a _ _ h; simp; omega
    | cons x l ih =>
      intro a h hb h3
      have h2 := List.pairwise_cons.1 h
      have := hb x (List.mem_cons_self ..)
      have := ih (x + 1) h2.2 (fun y hy => ⟨by have := h2.1 y hy; omega, (hb y (List.mem_cons_of_mem _ hy)).2⟩) (by omega)
      rw [List.length_cons]; omega
  have := key l 1 h hb (by omega)
  omega
theorem right_txn (k : Int) (hk : k = 18 ∨ k = 22) {t : Int} (h : 0 ≤ t) : rightN { NA.zero with kind := k, txn := t } = true := by
  unfold rightN boundN NA.bits NA.zero bareV
  rcases hk with rfl | rfl <;> by_cases h0 : 0 < t <;> simp [h0, List.zipIdx, fldN, partsV]
theorem right_who (k : Int) (hk : k = 20 ∨ k = 21) {t w : Int} (h : 0 ≤ t) (hw : 0 ≤ w ∧ w < 16) : rightN { NA.zero with kind := k, txn := t, who := w } = true := by
  unfold rightN boundN NA.bits NA.zero bareV
  rcases hk with rfl | rfl <;> by_cases h0 : 0 < t <;> by_cases h1 : w = 0 <;> simp [h0, h1, List.zipIdx, fldN, partsV] <;> first | omega | (refine ⟨by decide, by decide, ?_⟩; omega) | (refine ⟨by decide, ?_⟩; omega)
theorem right_com {t b s : Int} {ps : List Int} (hs : s ≤ 1099511627776) (hp : partsV ps = true) (hl : ps.length ≤ 4) : rightN { NA.zero with kind := 17, txn := t, batch := b, stamp := s, parts := ps } = true := by
  unfold rightN boundN NA.bits NA.zero bareV
  have hs2 : ¬ (1099511627776 < max (max s 0) 0) := by omega
  have hl2 : ¬ (4 < ps.length) := by omega
  dsimp only
  rw [hp]
  simp only [hs2, hl2]
  by_cases h0 : 0 < t <;> by_cases h1 : 0 < b <;> by_cases h2 : 0 < s <;> by_cases h3 : 0 < (ps.length : Int) <;> simp [h0, h1, h2, h3, List.zipIdx, fldN] <;> first | done | decide | (repeat' (first | exact .inr rfl | (refine And.intro rfl ?_)))
theorem right_beg {t : TR} (ha : t.after ≤ 1099511627776) (hw : 0 ≤ t.who ∧ t.who < 16) (hp : partsV t.parts = true) (hl : t.parts.length ≤ 4) (ho : t.ops.any badOp = false) (ho2 : t.ops.length ≤ 16) : rightN (beginN t) = true := by
  unfold rightN boundN NA.bits beginN NA.zero bareV
  have hw2 : ¬ (16 ≤ t.who) := by omega
  have hw3 : min (min (min (0 : Int) 0) t.who) 0 = 0 := by omega
  have ha2 : ¬ (1099511627776 < max (max (0 : Int) t.after) 0) := by omega
  have hl2 : ¬ (4 < t.parts.length) := by omega
  have hl3 : ¬ (16 < t.ops.length) := by omega
  dsimp only
  rw [hp, ho]
  simp only [hw2, hw3, ha2, hl2, hl3]
  by_cases h0 : 0 < t.txn <;> by_cases h1 : 0 < t.batch <;> by_cases h2 : 0 < t.after <;> by_cases h3 : 0 < (t.parts.length : Int) <;> by_cases h4 : t.who = 0 <;> by_cases h5 : 0 < (t.ops.length : Int) <;> simp [h0, h1, h2, h3, h4, h5, List.zipIdx, fldN] <;> first | done | decide | (repeat' (first | rfl | exact .inr rfl | (refine And.intro ?_ ?_)))
end Go.Proofs.YtiampehfpgcogaaDoor
namespace Go.SX
open Go
section
variable {P : Program} {n : Nat} {ops rest : List Oper} {Q : Post} {f : Env} {A L : List HP}
variable {d : Tmp} {ty : TypeId} {pos : String} {af : Array Edge}
theorem run_copy_sz {w : World} {dT sT ty e t0 : TypeId} {b o dl dc k kc sz : Nat} {a : Addr} {cs l : List Value} (hu : P.underlying dT = some (.slice e)) (hs : ∀ w, (sizeOf e).run P w = .ok sz w)
    (hn : cs.length = min k dl * sz) (hrow : w.heap[b]? = some (cl l t0)) (hl : o + cs.length ≤ l.length) (hsrc : ∀ j v, cs[j]? = some v → w.cell? (a.add j) = some v) (h1 : ∀ v ∈ cs, v.oneCell' = true) :
    (Builtin.copy_ #[dT, sT] ty #[.slice (some ⟨b, o, none⟩) dl dc, .slice (some a) k kc]).run P w = .ok (goInt (min k dl : Nat)) (w.setRow b (putAt l o cs).toArray) := by
  have hld := run_loadCells_list (P := P) w a cs hsrc
  have hst := run_storeCells_at P b o t0 cs 0 l.toArray w hrow (by simpa using hl) h1
  rw [hn] at hld
  simp only [Nat.add_zero] at hst
  have hp : putAt l o cs = List.take o l ++ cs ++ List.drop (o + cs.length) l := rfl
  rw [hp]
  have hm : Nat.min k dl = min k dl := rfl
  simp [Builtin.copy_, run_underlying hu, Builtin.lenOf, Builtin.firstCells, hs, hm, hld, hst]
theorem S.cpy {x y : Operand} {t tx e t0 : TypeId} {sz bts : Nat} {ag : Bool} {zs : List Value} {b o dl dc b2 o2 k kc : Nat} {l l' ys : List Value} {L' : Obj → List HP} [h : SlTy P t e] [h2 : Ty P e ag sz zs bts] [hu : UpdB b L (cl l t0) L']
    (hx : ev f x = some (.slice (some ⟨b, o, none⟩) dl dc)) (hy : ev f y = some (.slice (some ⟨b2, o2, none⟩) k kc)) (hr : RdC L b2 o2 ys) (hn : ys.length = min k dl * sz) (hl : o + ys.length ≤ l.length) (h1 : ys.all (·.oneCell') = true) (hl' : putAt l o ys = l')
    (hk : opsS P n ops rest Q (upd f d (.int .i64 (min k dl : Nat))) (L' (cl l' t0))) :
    opsS P n ops (⟨some d, .call ⟨.builtin .copy, #[x, y], #[t, tx]⟩, ty, pos, af, none⟩ :: rest) Q f L := by
  refine opsS_value (R := fun v L1 => v = .int .i64 (min k dl : Nat) ∧ L1 = L' (cl l' t0)) (fun F ac w s t1 => ?_) (by rintro _ _ ⟨rfl, rfl⟩; exact hk)
  have hrow := hu.read t1
  have hrun := run_copy_sz (P := P) (w := w) (dT := t) (sT := tx) (ty := ty) (e := e) (t0 := t0) (b := b) (o := o) (dl := dl) (dc := dc) (k := k) (kc := kc) (sz := sz) (a := ⟨b2, o2, none⟩) (cs := ys) (l := l) h.raw h2.size hn hrow hl (fun j v e => by
    have := hr w F t1 j v e
    have e2 : (⟨b2, o2, none⟩ : Addr).add j = ⟨b2, o2 + j, none⟩ := by unfold Addr.add; split <;> simp_all
    rw [e2]; exact this) (fun v hv => by simpa using List.all_eq_true.1 h1 v hv)
  refine ⟨_, w.setRow b l'.toArray, _, ?_, setRow_heap_of hrow t1, rfl, rfl⟩
  rw [← hl']
  simp [execOp, resolve, invoke, s.eval hx, s.eval hy, builtin, hrun, goInt]
theorem S.appz {x y : Operand} {t tn e : TypeId} {sz bts : Nat} {ag : Bool} {zs : List Value} {kn kq : IntKind} {b o m c k : Nat} {olds : List Value} [h : SlTy P t e] [h2 : Ty P e ag sz zs bts] [h3 : IntTy P tn kn]
    (hx : ev f x = some (.slice (some ⟨b, o, none⟩) m c)) (hy : ev f y = some (.int kq k)) (hr : RdC L b o olds) (ho : olds.length = m * sz) (hg : c < m + k) (h0 : 0 < k) (hz : zs.length = sz) (hs0 : 0 < sz) (hfit : (m + k) * bts ≤ 140737488355328) (h63 : m + k ≤ 9223372036854775807)
    (hk : ∀ b' c', opsS P n ops rest Q (upd f d (.slice (some ⟨b', 0, none⟩) (m + k) c')) (slO e sz (some ⟨b', 0, none⟩) (m + k) c' (olds ++ rep k zs) :: L)) :
    opsS P n ops (⟨some d, .call ⟨.builtin .append, #[x, y], #[t, tn]⟩, ty, pos, af, none⟩ :: rest) Q f L := by
  obtain ⟨i, z, hi, hisz, hib, hiz, hzz⟩ := h2.raw
  refine opsS_value (R := fun v L1 => ∃ b' c', v = .slice (some ⟨b', 0, none⟩) (m + k) c' ∧ L1 = slO e sz (some ⟨b', 0, none⟩) (m + k) c' (olds ++ rep k zs) :: L) (fun F ac w s t1 => ?_) (by rintro _ _ ⟨b', c', rfl, rfl⟩; exact hk b' c')
  have hfit' : Builtin.nextslicecap (m + k) c * i.bytes ≤ 281474976710656 := growslice_fits hg (by rw [hib]; exact hfit)
  have hold : (Builtin.firstCells i.size m (.slice (some ⟨b, o, none⟩) m c)).run P w.drew = .ok olds.toArray w.drew := by
    refine run_firstCells_some w.drew i.size m _ m c olds (by rw [hisz]; exact ho) (fun j u hj => ?_)
    have e2 : (⟨b, o, none⟩ : Addr).add j = ⟨b, o + j, none⟩ := by unfold Addr.add; split <;> simp_all
    rw [e2]
    exact hr w F t1 j u hj
  have hbz : k * i.bytes ≤ 281474976710656 := by
    rw [hib]
    have := Nat.mul_le_mul_right bts (show k ≤ m + k by omega)
    omega
  have hr := Lib.run_append_grow_zeros (P := P) w t tn ty e i z kq kn h.raw h3.raw hi hiz (some ⟨b, o, none⟩) m c olds hold k h0 (by rw [hisz]; exact hs0) hg (by omega) hbz hfit'
  have hcap : m + k ≤ grownCap w (m + k) c e := by
    simp only [grownCap, Question.cut]; omega
  have hzl : z.cells.size = sz := by rw [← hz, ← hzz]; simp
  have hzr : (Builtin.zeroCells z.cells k).toList = rep k zs := by
    have := zero_row z.cells k sz hzl
    rw [hzz] at this
    have e : Builtin.zeroCells z.cells k = (rep k zs).toArray := by simpa [Builtin.zeroCells, hzl] using this
    rw [e]
  have hrl : (rep k zs).length = k * sz := by rw [rep_length, hz]
  refine ⟨_, w.drew.alloc (.cells (olds.toArray ++ Builtin.zeroCells z.cells k ++ Builtin.zeroCells z.cells (grownCap w (m + k) c e - (m + k))) e), slO e sz (some ⟨w.heap.size, 0, none⟩) (m + k) (grownCap w (m + k) c e) (olds ++ rep k zs) :: L, ?_, ?_, _, _, rfl, rfl⟩
  · simp [execOp, resolve, invoke, s.eval hx, s.eval hy, builtin, hr]
  · have H2 : St (w.drew.alloc (.cells (olds.toArray ++ Builtin.zeroCells z.cells k ++ Builtin.zeroCells z.cells (grownCap w (m + k) c e - (m + k))) e)) (pt w.heap.size (cl ((olds ++ rep k zs) ++ (Builtin.zeroCells z.cells (grownCap w (m + k) c e - (m + k))).toList) e) :: (L ++ F)) := by
      refine St.pt_new t1 ?_
      show w.heap.push _ = _
      congr 1
      simp [cl, ← hzr]
    have H3 := St.slO_shut (sz := sz) (m := m + k) (c := grownCap w (m + k) c e) (by simp [ho, hrl, Nat.add_mul]) hcap (by
      simp only [List.length_append, ho, hrl, Builtin.zeroCells, Array.length_toList, Array.size_map, Array.size_range, hzl]
      rw [← Nat.add_mul, ← Nat.add_mul]; congr 1; omega) H2
    exact H3
theorem CallsS.slOc {g : FuncId} {args : List Value} {R : Value → List HP → Prop} {t sz m c : Nat} {a : Option Addr} {cs : List Value}
    (h0 : a = none → m = 0 → c = 0 → cs = [] → CallsS P g args (SX.slO t sz none 0 0 [] :: L) R) (h1 : ∀ b, a = some ⟨b, 0, none⟩ → m ≤ c → CallsS P g args (SX.slO t sz a m c cs :: L) R) : CallsS P g args (SX.slO t sz a m c cs :: L) R := fun F w H => by
  rcases (St.slO_open H).2 with ⟨e1, e2, e3, e4, _⟩ | ⟨b, rest, e, h2, _, _⟩
  · subst e1 e2 e3 e4
    exact h0 rfl rfl rfl rfl F w H
  · exact h1 b e h2 F w H
theorem opsS_own (b : Nat) {t sz m c : Nat} {cs : List Value} {L0 : List HP} [h : PickS (some ⟨b, 0, none⟩) L t sz m c cs L0]
    (hk : ∀ rs, m ≤ c → (cs ++ rs).length = c * sz → opsS P n ops rest Q f (pt b (cl (cs ++ rs) t) :: L0)) : opsS P n ops rest Q f L := fun ok F a w s t1 => by
  rcases (St.slO_open (L := L0 ++ F) (h.ent w F t1)).2 with ⟨e, _⟩ | ⟨b', rs, e, h1, h2, h3⟩
  · cases e
  · cases e
    exact hk rs h1 h2 ok F a w s h3
theorem Y.cap {x : Operand} {t e : TypeId} {a : Option Addr} {m c : Nat} [h : SlTy P t e] (hx : ev f x = some (.slice a m c)) : YieldS P n ops ⟨some d, .call ⟨.builtin .cap, #[x], #[t]⟩, ty, pos, af, none⟩ f A (.int .i64 c) := by
  refine Y.of (fun ac w s => ?_)
  simp [execOp, resolve, invoke, s.eval hx, builtin, Builtin.cap_, h.und]
  rfl
theorem St.pt_ne {w : World} {b b' : Nat} {o o' : Obj} {L : List HP} (H : St w (pt b o :: pt b' o' :: L)) : b ≠ b' := by
  rintro rfl
  obtain ⟨h, f, h1, h2, ok, e, a, h3, h4, ok', rfl, a', l⟩ := H
  have e3 : h3 b = some (true, o') := a'
  have e2 : (h3.add h4) b = some (true, o') := by simp [Hp.add, e3]
  have := ok b _ _ _ _ a e2
  simp at this
theorem Y.ovl {x y : Operand} {g : FuncId} {fn : Func} {tS tR e t1 t2 : TypeId} {ats : Array TypeId} {b1 b2 o1 o2 m1 c1 m2 c2 sz bts : Nat} {ag : Bool} {zs l1 l2 : List Value} {A0 A1 : List HP} [h : SlTy P tS e] [h2 : Ty P e ag sz zs bts]
    [p1 : Pick (pt b1 (cl l1 t1)) A A0] [p2 : Pick (pt b2 (cl l2 t2)) A0 A1]
    (hf : P.funcs[g]? = some fn) (hname : (fn.name == "runtime.NumGoroutine") = false) (hb : fn.body.isNone = true) (hn : Extern.findNext fn = none) (he : Extern.find fn = some (Extern.SlicesOverlaps.overlaps #[tS, tS] #[tR]))
    (hx : ev f x = some (.slice (some ⟨b1, o1, none⟩) m1 c1)) (hy : ev f y = some (.slice (some ⟨b2, o2, none⟩) m2 c2)) (hl : l2 ≠ []) :
    YieldS P n ops ⟨some d, .call ⟨.value (.func g), #[x, y], ats⟩, ty, pos, af, none⟩ f A (.bool false) := by
  refine Y.of' (fun ac w F s t => ?_)
  have u2 : St w (pt b1 (cl l1 t1) :: pt b2 (cl l2 t2) :: (A1 ++ F)) := by simpa using (p1.ent.trans p2.ent.cons) w F t
  have hne := St.pt_ne u2
  have r1 := St.pt_read u2
  have r2 := St.pt_read u2.tail
  have hr := Lib.run_overlaps_apart (P := P) w tS tR e h.raw sz h2.size ⟨b1, o1, none⟩ ⟨b2, o2, none⟩ m1 c1 m2 c2 hne t1 t2 l1.length l2.length (by simp [World.shape?, r1, cl]) (by simp [World.shape?, r2, cl]) (by simpa using hl) (by simp [World.frozen?, r1, cl]) (by simp [World.frozen?, r1, cl])
  have hev : ac.eval (.func g) = .func (.func g) #[] #[] := rfl
  simp [execOp, resolve, Deferred.ofValue, invoke, s.eval hx, s.eval hy, hev, run_callFunc_extern hf hname hb hn he, hr]
end
end Go.SX
namespace Go.Proofs.YtiampehfpgcogaaDoor
open Go Go.SX
attribute [local irreducible] swp opsS thenS blockS retS CallsS St Ent YieldS anyS drawS
attribute [local irreducible] ar
abbrev AI (bk : Nat) (d : Array Int) (rs : List Value) : HP := pt bk (cl (ar .i64 d rs) 3)
theorem LessI_spec (x y : Int) (L : List HP) : CallsS Tryd.prog 67 [.int .i64 x, .int .i64 y] L (fun v L' => v = .bool (Sort.ltInt x y) ∧ L' = L) := by
  have nan : ∀ z, CallsS Tryd.prog 84 [.int .i64 z] L (fun v L' => v = .bool false ∧ L' = L) := fun z => by
    refine CallsS.of_body Tryd.func84 rfl rfl rfl ?_
    refine Q.r ?_; (repeat (intro b1; refine Q.r ?_))
    exact N.r1 (RV.tmp rfl RV.nil) (Ent.refl _) ⟨by simp [packV], rfl⟩
  refine CallsS.of_body Tryd.func67 rfl rfl rfl ?_
  refine Q.r ?_; (repeat (intro b1; refine Q.r ?_))
  refine S.cr rfl (nan x) ?_
  rintro _ _ ⟨rfl, rfl⟩
  refine Q.r ?_; (repeat (intro b1; refine Q.r ?_))
  exact N.r1 (RV.tmp rfl RV.nil) (Ent.refl _) ⟨rfl, rfl⟩
set_option maxHeartbeats 4000000 in
theorem insertionSortI_spec (bk n c a b : Nat) (d : Array Int) (rs : List Value) (L : List HP) (hd : d.size = n) (ha : a ≤ n) (hb : b ≤ n) (hn : n ≤ 4611686018427387904) :
    CallsS Tryd.prog 74 [SV bk n c, .int .i64 a, .int .i64 b] (AI bk d rs :: L) (fun v L' => v = .tuple #[] ∧ L' = AI bk (Sort.insertionSort Sort.ltInt d a b) rs :: L) := by
  refine CallsS.of_body Tryd.func74 rfl rfl rfl ?_
  refine Q.rn ?_; (repeat (intro b1; refine Q.rn ?_))
  refine swp_loop (σ := Nat × Array Int) (fun s => [(0, SV bk n c), (1, .int .i64 a), (2, .int .i64 b), (6, .int .i64 s.1)]) (fun s => AI bk s.2 rs :: L)
    (fun s => a + 1 ≤ s.1 ∧ s.1 ≤ n + 1 ∧ s.2.size = n ∧ Sort.insOuter Sort.ltInt a b s.1 s.2 = Sort.insertionSort Sort.ltInt d a b) (fun s => b - s.1) (a + 1, d) ⟨rfl, rfl, rfl, rfl, trivial⟩ (by exact Go.SX.Ent.go) ⟨Nat.le_refl _, by dsimp only; omega, hd, rfl⟩ ?_
  rintro ⟨i, e⟩ ⟨h1, h2, h3, h4⟩
  dsimp only at h1 h2 h3 h4 ⊢
  rw [Sort.insOuter] at h4
  by_cases hi : i < b
  · rw [if_pos hi] at h4
    refine Q.rn ?_; (repeat (intro b1; refine Q.rn ?_))
    refine swp_loop (σ := Nat × Array Int) (fun s => [(0, SV bk n c), (1, .int .i64 a), (2, .int .i64 b), (6, .int .i64 i), (7, .int .i64 s.1)]) (fun s => AI bk s.2 rs :: L)
      (fun s => s.1 ≤ i ∧ s.2.size = n ∧ Sort.insInner Sort.ltInt a s.1 s.2 = Sort.insInner Sort.ltInt a i e) (fun s => s.1) (i, e) ⟨rfl, rfl, rfl, rfl, rfl, trivial⟩ (by exact Go.SX.Ent.go) ⟨Nat.le_refl _, h3, rfl⟩ ?_
    rintro ⟨j, g⟩ ⟨g1, g2, g3⟩
    dsimp only at g1 g2 g3 ⊢
    by_cases hj : a < j
    · obtain ⟨k, rfl⟩ : ∃ k, j = k + 1 := ⟨j - 1, by omega⟩
      rw [Sort.insInner, show decide (k + 1 > a) = true by simpa using hj, Bool.true_and] at g3
      refine Q.rn ?_; (repeat (intro b1; refine Q.rn ?_))
      refine Q.dgo [true] [13] [] [0, 1, 2, 3, 4, 5, 6, 7, 8, 9, 10, 11, 12, 13, 14] ?_
      refine Q.rdn ?_; (repeat (intro b1; refine Q.rdn ?_))
      refine D.e rfl rfl rfl ?_
      refine S.guard rfl ?_
      refine S.cr rfl (LessI_spec _ _ _) ?_
      rintro _ M ⟨rfl, rfl⟩
      cases hl : Sort.ltInt g[k + 1]! g[k]! with
      | false =>
        rw [show k + 1 - 1 = k from rfl, hl]
        rw [hl] at g3
        refine Q.rn ?_; (repeat (intro b1; refine Q.rn ?_))
        refine Q.rdn ?_; (repeat (intro b1; refine Q.rdn ?_))
        refine Q.rn ?_; (repeat (intro b1; refine Q.rn ?_))
        refine ⟨(i + 1, g), ⟨rfl, rfl, rfl, rfl, trivial⟩, by exact Go.SX.Ent.go, ⟨by dsimp only; omega, by dsimp only; omega, g2, ?_⟩, by dsimp only; omega⟩
        simp only [Bool.false_eq_true, if_false] at g3
        rw [g3]; exact h4
      | true =>
        rw [show k + 1 - 1 = k from rfl, hl]
        rw [hl] at g3
        refine Q.rn ?_; (repeat (intro b1; refine Q.rn ?_))
        refine Q.rdn ?_; (repeat (intro b1; refine Q.rdn ?_))
        refine Q.rn ?_; (repeat (intro b1; refine Q.rn ?_))
        refine Q.dgo [true] [15, 17] [15] [0, 1, 2, 3, 4, 5, 6, 7, 8, 9, 10, 11, 12, 13, 14, 15, 16, 17] ?_
        refine Q.rdn ?_; (repeat (intro b1; refine Q.rdn ?_))
        refine Q.dc rfl rfl rfl rfl ?_
        refine Q.rn ?_; (repeat (intro b1; refine Q.rn ?_))
        refine Q.rdn ?_; (repeat (intro b1; refine Q.rdn ?_))
        refine D.e rfl rfl rfl ?_
        refine Q.rn ?_; (repeat (intro b1; refine Q.rn ?_))
        refine Q.rdn ?_; (repeat (intro b1; refine Q.rdn ?_))
        refine Q.rn ?_; (repeat (intro b1; refine Q.rn ?_))
        simp only [if_true] at g3
        exact ⟨(k, Sort.swp g (k + 1) k), ⟨rfl, rfl, rfl, rfl, rfl, trivial⟩, Ent.refl _, ⟨by dsimp only; omega, by rw [swp_size]; exact g2, g3⟩, by dsimp only; omega⟩
    · have hgg : Sort.insInner Sort.ltInt a j g = g := by
        cases j with
        | zero => rfl
        | succ j => rw [Sort.insInner, show decide (j + 1 > a) = false by simpa using hj]; simp
      rw [hgg] at g3
      refine Q.rn ?_; (repeat (intro b1; refine Q.rn ?_))
      refine Q.dgo [true] [13] [] [0, 1, 2, 3, 4, 5, 6, 7, 8, 9, 10, 11, 12, 13, 14] ?_
      refine Q.rdn ?_; (repeat (intro b1; refine Q.rdn ?_))
      refine Q.rn ?_; (repeat (intro b1; refine Q.rn ?_))
      exact ⟨(i + 1, g), ⟨rfl, rfl, rfl, rfl, trivial⟩, Ent.refl _, ⟨by dsimp only; omega, by dsimp only; omega, g2, by dsimp only; rw [g3]; exact h4⟩, by dsimp only; omega⟩
  · rw [if_neg hi] at h4
    subst h4
    refine Q.rn ?_; (repeat (intro b1; refine Q.rn ?_))
    exact N.n0 RV.nil (Ent.refl _) ⟨rfl, rfl⟩
end Go.Proofs.YtiampehfpgcogaaDoor
namespace Go.Proofs.YtiampehfpgcogaaDoor
open Go Go.SX
attribute [local irreducible] swp opsS thenS blockS retS CallsS St Ent YieldS anyS drawS
theorem insertionSortI_zero (sv : Value) (L : List HP) : CallsS Tryd.prog 74 [sv, .int .i64 (0 : Nat), .int .i64 (0 : Nat)] L (fun v L' => v = .tuple #[] ∧ L' = L) := by
  refine CallsS.of_body Tryd.func74 rfl rfl rfl ?_
  refine Q.rn ?_; (repeat (intro b1; refine Q.rn ?_))
  refine swp_loop (σ := Unit) (fun s => [(2, .int .i64 (0 : Nat)), (6, .int .i64 (1 : Nat))]) (fun s => L) (fun s => True) (fun s => 0) () ⟨rfl, rfl, trivial⟩ (Ent.refl _) trivial ?_
  intro _ _
  refine Q.rn ?_; (repeat (intro b1; refine Q.rn ?_))
  exact N.n0 RV.nil (Ent.refl _) ⟨rfl, rfl⟩
theorem SortI_spec (a : Option Addr) (m c : Nat) (xs : List Int) (L : List HP) (hm : m = xs.length) (hn : m ≤ 12) :
    CallsS Tryd.prog 55 [.slice a m c] (slO 3 1 a m c (xs.map (Value.int .i64)) :: L) (fun v L' => v = .tuple #[] ∧ L' = slO 3 1 a m c ((sortL xs).map (Value.int .i64)) :: L) := by
  have hu : IntKind.u64.wrap (m : Int) = (m : Int) := wrap_u64 (by omega) (by omega)
  have pdq : ∀ (L L1 : List HP) (sv : Value) (lim : Nat), CallsS Tryd.prog 74 [sv, .int .i64 (0 : Nat), .int .i64 m] L (fun v L' => v = .tuple #[] ∧ L' = L1) → CallsS Tryd.prog 65 [sv, .int .i64 (0 : Nat), .int .i64 m, .int .i64 lim] L (fun v L' => v = .tuple #[] ∧ L' = L1) := by
    intro L L1 sv lim h
    refine CallsS.of_body Tryd.func65 rfl rfl rfl ?_
    refine Q.rn ?_; (repeat (intro b1; refine Q.rn ?_))
    refine swp_loop (σ := Unit) (fun s => [(0, sv), (1, .int .i64 (0 : Nat)), (2, .int .i64 m)]) (fun s => L) (fun s => True) (fun s => 0) () ⟨rfl, rfl, rfl, trivial⟩ (Ent.refl _) trivial ?_
    intro _ _
    refine Q.rn ?_; (repeat (intro b1; refine Q.rn ?_))
    refine S.cr rfl h ?_
    rintro _ _ ⟨rfl, rfl⟩
    refine Q.rn ?_; (repeat (intro b1; refine Q.rn ?_))
    exact N.r0 RV.nil (Ent.refl _) ⟨rfl, rfl⟩
  by_cases h0 : m = 0
  · have hx : xs = [] := List.eq_nil_of_length_eq_zero (by omega)
    subst hx
    have hs : sortL [] = [] := by simp [sortL]
    rw [hs]
    refine CallsS.of_body Tryd.func55 rfl rfl rfl ?_
    refine Q.rn ?_; (repeat (intro b1; refine Q.rn ?_))
    refine S.y (Y.cvi rfl) ?_
    rw [hu]
    refine Q.rn ?_; (repeat (intro b1; refine Q.rn ?_))
    refine S.cr rfl (Len_spec m (by omega) _) ?_
    rintro _ _ ⟨rfl, rfl⟩
    subst h0
    refine S.cr rfl (pdq _ _ _ (Sort.bitsLen 0) (insertionSortI_zero _ _)) ?_
    rintro _ _ ⟨rfl, rfl⟩
    refine Q.rn ?_; (repeat (intro b1; refine Q.rn ?_))
    exact N.n0 RV.nil (Ent.refl _) ⟨rfl, rfl⟩
  refine CallsS.slO (by omega) fun b rest ha hmc hlen => ?_
  subst ha
  refine CallsS.of_body Tryd.func55 rfl rfl rfl ?_
  refine Q.rn ?_; (repeat (intro b1; refine Q.rn ?_))
  refine S.y (Y.cvi rfl) ?_
  rw [hu]
  refine Q.rn ?_; (repeat (intro b1; refine Q.rn ?_))
  refine S.cr rfl (Len_spec m (by omega) _) ?_
  rintro _ _ ⟨rfl, rfl⟩
  have hd : xs.toArray.size = m := by simp [hm]
  refine S.cr rfl (pdq _ _ _ (Sort.bitsLen m) (insertionSortI_spec b m c 0 m xs.toArray rest _ hd (by omega) (Nat.le_refl _) (by omega))) ?_
  rintro _ _ ⟨rfl, rfl⟩
  have hsp := Sort.insertionSort_holds (lt := Sort.ltInt) Sort.swo_ltInt xs.toArray 0 m (by omega) (by omega)
  have he : (Sort.insertionSort Sort.ltInt xs.toArray 0 m).toList = sortL xs := by
    have := Sort.sorted_unique_holds (lt := Sort.ltInt) Sort.swo_ltInt (fun x y h1 h2 => by simp [Sort.ltInt] at h1 h2; omega) xs.toArray _ (by rw [hd]; exact hsp.1) (by rw [hd]; exact hsp.2)
    rw [this]
    unfold sortL
    congr 1
    funext x y
    simp [Sort.ltInt]
    by_cases h : x ≤ y <;> simp [h] <;> omega
  refine Q.rn ?_; (repeat (intro b1; refine Q.rn ?_))
  refine N.n0 RV.nil ?_ ⟨rfl, rfl⟩
  have hen : (ar .i64 (Sort.insertionSort Sort.ltInt xs.toArray 0 m) rest) = (sortL xs).map (Value.int .i64) ++ rest := by rw [ar_toList, he]
  unfold AI
  rw [hen]
  exact slO_shut (by simp [sortL_len, hm]) hmc (by simpa [sortL_len] using hlen)
end Go.Proofs.YtiampehfpgcogaaDoor
namespace Go.Proofs.YtiampehfpgcogaaDoor
open Go Go.SX
attribute [local irreducible] swp opsS thenS blockS retS CallsS St Ent YieldS anyS drawS
theorem NaNI_spec (x : Int) (L : List HP) : CallsS Tryd.prog 68 [.int .i64 x] L (fun v L' => v = .bool false ∧ L' = L) := by
  refine CallsS.of_body Tryd.func68 rfl rfl rfl ?_
  refine Q.r ?_; (repeat (intro b1; refine Q.r ?_))
  exact N.r1 (RV.tmp rfl RV.nil) (Ent.refl _) ⟨by simp [packV], rfl⟩
theorem ltI_eq (x y : Int) : Sort.ltInt x y = decide (x < y) := rfl
abbrev cntI (xs : List Int) (x : Int) : Nat := (xs.takeWhile fun y => decide (y < x)).length
theorem cntI_le (xs : List Int) (x : Int) : cntI xs x ≤ xs.length := (List.takeWhile_prefix _).length_le
theorem cntI_cons (a : Int) (xs : List Int) (x : Int) : cntI (a :: xs) x = if a < x then cntI xs x + 1 else 0 := by
  unfold cntI
  rw [List.takeWhile_cons]
  by_cases h : a < x
  · rw [decide_eq_true h, if_pos h]; rfl
  · rw [decide_eq_false h, if_neg h]; rfl
theorem cntI_lo {x : Int} : ∀ {xs : List Int} {k : Nat}, k < cntI xs x → ∀ {y : Int}, xs[k]? = some y → y < x
  | [], k, h, y, _ => absurd h (Nat.not_lt_zero _)
  | a :: xs, k, h, y, hy => by
    rw [cntI_cons] at h
    by_cases ha : a < x
    · rw [if_pos ha] at h
      cases k with
      | zero => simp at hy; omega
      | succ k => exact cntI_lo (xs := xs) (k := k) (by omega) (by simpa using hy)
    · rw [if_neg ha] at h; omega
theorem cntI_hi {x : Int} : ∀ {xs : List Int}, Rise xs → ∀ {k : Nat}, cntI xs x ≤ k → ∀ {y : Int}, xs[k]? = some y → ¬ y < x
  | [], _, k, _, y, hy => by simp at hy
  | a :: xs, hs, k, h, y, hy => by
    have h2 := List.pairwise_cons.1 hs
    rw [cntI_cons] at h
    by_cases ha : a < x
    · rw [if_pos ha] at h
      cases k with
      | zero => omega
      | succ k => exact cntI_hi h2.2 (k := k) (by omega) (by simpa using hy)
    · cases k with
      | zero => simp at hy; omega
      | succ k =>
        have := h2.1 y (List.mem_of_getElem? (by simpa using hy : xs[k]? = some y))
        omega
set_option maxHeartbeats 2000000 in
theorem BinI_spec (a : Option Addr) (c : Nat) (xs : List Int) (x : Int) (A : List HP) (h : RdS A a xs.length 1 (xs.map I64)) (hn : xs.length ≤ 1000000) (hs : Rise xs) :
    CallsS Tryd.prog 56 [.slice a xs.length c, .int .i64 x] A (fun r L' => (∃ b, r = .tuple #[.int .i64 (cntI xs x), .bool b]) ∧ L' = A) := by
  refine CallsS.of_body Tryd.func56 rfl rfl rfl ?_
  refine Q.r ?_; (repeat (intro b1; refine Q.r ?_))
  refine swp_loop (σ := Nat × Nat) (fun s => [(0, .slice a xs.length c), (1, .int .i64 x), (6, .int .i64 xs.length), (7, .int .i64 s.1), (8, .int .i64 s.2)])
    (fun _ => A) (fun s => s.1 ≤ cntI xs x ∧ cntI xs x ≤ s.2 ∧ s.2 ≤ xs.length) (fun s => s.2 - s.1) (0, xs.length) ⟨rfl, rfl, rfl, rfl, rfl, trivial⟩ (Ent.refl _) ⟨Nat.zero_le _, cntI_le _ _, Nat.le_refl _⟩ ?_
  rintro ⟨i, j⟩ ⟨h1, h2, h3⟩
  dsimp only at h1 h2 h3 ⊢
  by_cases hij : i < j
  · refine Q.rn ?_; (repeat (intro b1; refine Q.rn ?_))
    refine S.y (Y.cvi rfl) ?_
    rw [wrap_u64 (by omega) (by omega)]
    refine S.y (Y.shr (a := i + j) (b := 1) rfl rfl (by decide)) ?_
    rw [show (i + j) / 2 ^ 1 = (i + j) / 2 by simp]
    refine S.y (Y.cvi rfl) ?_
    rw [wrap_i64 (by omega) (by omega)]
    obtain ⟨m, hm⟩ : ∃ m, m = (i + j) / 2 := ⟨_, rfl⟩
    have hh1 : i ≤ m := by omega
    have hh2 : m < j := by omega
    rw [← hm]
    obtain ⟨q, hq⟩ := mem_get (show m < xs.length by omega)
    obtain ⟨b, oo, hia, hr⟩ := RdS.elem (g := fun z : Int => [I64 z]) (fun _ => rfl) (by rw [flat_I64]; exact h) hq rfl
    rw [hia]
    refine Q.rn ?_; (repeat (intro b1; refine Q.rn ?_))
    refine S.cr rfl (LessI_spec q x _) ?_
    rintro _ _ ⟨rfl, rfl⟩
    rw [ltI_eq]
    by_cases hp : q < x
    · have hrh : m < cntI xs x := Nat.lt_of_not_le fun hc => cntI_hi hs hc hq hp
      rw [decide_eq_true hp]
      refine Q.rn ?_; (repeat (intro b1; refine Q.rn ?_))
      exact ⟨(m + 1, j), ⟨rfl, rfl, rfl, rfl, rfl, trivial⟩, Ent.refl _, ⟨hrh, h2, h3⟩, by dsimp only; omega⟩
    · have hrh : cntI xs x ≤ m := Nat.le_of_not_lt fun hc => hp (cntI_lo hc hq)
      rw [decide_eq_false hp]
      refine Q.rn ?_; (repeat (intro b1; refine Q.rn ?_))
      exact ⟨(i, m), ⟨rfl, rfl, rfl, rfl, rfl, trivial⟩, Ent.refl _, ⟨h1, hrh, by dsimp only; omega⟩, by dsimp only; omega⟩
  · have hci : cntI xs x = i := by omega
    have hil : i ≤ xs.length := by omega
    rw [hci]
    clear hci h1 h2
    by_cases hlt : i < xs.length
    · obtain ⟨q, hq⟩ := mem_get hlt
      obtain ⟨b, oo, hia, hr⟩ := RdS.elem (g := fun z : Int => [I64 z]) (fun _ => rfl) (by rw [flat_I64]; exact h) hq rfl
      rw [hia]
      by_cases hqx : q = x
      · refine Q.rn ?_; (repeat (intro b1; refine Q.rn ?_))
        exact N.r2 (RV.tmp rfl (RV.tmp rfl RV.nil)) (Ent.refl _) ⟨⟨_, rfl⟩, rfl⟩
      · refine Q.rn ?_; (repeat (intro b1; refine Q.rn ?_))
        refine S.cr rfl (NaNI_spec q _) ?_
        rintro _ _ ⟨rfl, rfl⟩
        refine Q.rn ?_; (repeat (intro b1; refine Q.rn ?_))
        exact N.r2 (RV.tmp rfl (RV.tmp rfl RV.nil)) (Ent.refl _) ⟨⟨_, rfl⟩, rfl⟩
    · refine Q.rn ?_; (repeat (intro b1; refine Q.rn ?_))
      exact N.r2 (RV.tmp rfl (RV.tmp rfl RV.nil)) (Ent.refl _) ⟨⟨_, rfl⟩, rfl⟩
theorem ins_room {p q rest : List Value} {x : Value} (h : 1 ≤ rest.length) : putAt (putAt (p ++ q ++ rest) (p.length + 1) q) p.length [x] = (p ++ x :: q) ++ rest.drop 1 := by
  obtain ⟨y, rest, rfl⟩ : ∃ y r, rest = y :: r := by
    cases rest with
    | nil => simp at h
    | cons y r => exact ⟨y, r, rfl⟩
  have e1 : putAt (p ++ q ++ y :: rest) (p.length + 1) q = p ++ (q ++ [y]).take 1 ++ q ++ rest := by
    unfold putAt
    have : p ++ q ++ y :: rest = p ++ ((q ++ [y]) ++ rest) := by simp
    rw [this, List.take_append, List.take_of_length_le (by omega), show p.length + 1 - p.length = 1 by omega, List.drop_append, List.drop_eq_nil_of_le (by omega), List.nil_append, show p.length + 1 + q.length - p.length = (q ++ [y]).length by simp; omega]
    rw [List.drop_left, List.take_append]
    have : 1 - (q ++ [y]).length = 0 := by simp
    rw [this]
    simp
  rw [e1]
  obtain ⟨z, hz⟩ : ∃ z, (q ++ [y]).take 1 = [z] := by
    cases q with
    | nil => exact ⟨y, rfl⟩
    | cons z q => exact ⟨z, rfl⟩
  rw [hz]
  unfold putAt
  simp [List.take_append, List.drop_append]
theorem ins_grow {p zs q rest : List Value} {x : Value} (h : zs.length = q.length + 1) : putAt (putAt (p ++ zs ++ rest) p.length [x]) (p.length + 1) q = (p ++ x :: q) ++ rest := by
  obtain ⟨y, zs, rfl⟩ : ∃ y r, zs = y :: r := by
    cases zs with
    | nil => simp at h
    | cons y r => exact ⟨y, r, rfl⟩
  have h2 : zs.length = q.length := by simpa using h
  have e1 : putAt (p ++ y :: zs ++ rest) p.length [x] = p ++ x :: (zs ++ rest) := by
    unfold putAt
    rw [show p ++ y :: zs ++ rest = p ++ (y :: (zs ++ rest)) by simp, List.take_left, List.drop_append, List.drop_eq_nil_of_le (by simp)]
    simp
  rw [e1]
  unfold putAt
  have e2 : p ++ x :: (zs ++ rest) = (p ++ [x]) ++ (zs ++ rest) := by simp
  have e3 : p.length + 1 = (p ++ [x]).length := by simp
  rw [e2, e3, List.take_left, List.drop_append, List.drop_eq_nil_of_le (by omega), List.nil_append, show (p ++ [x]).length + q.length - (p ++ [x]).length = zs.length by omega, List.drop_left]
  simp
theorem RdC.pre {L : List HP} {b o : Nat} {cs ds : List Value} (h : RdC L b o (cs ++ ds)) : RdC L b o cs := RdC.part (k := 0) (ds := cs) h fun j v e => by
  rw [Nat.zero_add, List.getElem?_append_left (List.getElem?_eq_some_iff.1 e).1]; exact e
theorem RdC.suf {L : List HP} {b o : Nat} {cs ds : List Value} (h : RdC L b o (cs ++ ds)) : RdC L b (o + cs.length) ds := RdC.part (k := cs.length) (ds := ds) h fun j v e => by
  rw [List.getElem?_append_right (by omega)]
  rw [show cs.length + j - cs.length = j by omega]; exact e
set_option maxHeartbeats 2000000 in
theorem InsI_in (b c vb n i : Nat) (p q rest : List Value) (x : Value) (L : List HP) (hi : p.length = i) (hq : i + q.length = n) (hq0 : 0 < q.length) (hn : n ≤ 1000000) (hc : (p ++ q ++ rest).length = c) (h1 : x.oneCell' = true) (h2 : q.all (·.oneCell') = true) :
    CallsS Tryd.prog 57 [.slice (some ⟨b, 0, none⟩) n c, .int .i64 i, .slice (some ⟨vb, 0, none⟩) 1 1] (pt b (cl (p ++ q ++ rest) 3) :: pt vb (cl [x] 3) :: L)
      (fun r L' => ∃ a' c', r = .slice a' (n + 1) c' ∧ L' = slO 3 1 a' (n + 1) c' (p ++ x :: q) :: L) := by
  have hcl : i + q.length + rest.length = c := by rw [← hc, List.length_append, List.length_append, hi]
  refine CallsS.of_body Tryd.func57 rfl rfl rfl ?_
  refine Q.r ?_; (repeat (intro b1; refine Q.r ?_))
  refine S.y (Y.slF (l := i) rfl rfl rfl (by omega)) ?_
  refine Q.r ?_; (repeat (intro b1; refine Q.r ?_))
  refine S.y (Y.cap rfl) ?_
  by_cases hg : c < n + 1
  · refine Q.r ?_; (repeat (intro b1; refine Q.r ?_))
    refine S.y (Y.slT (h := i) rfl rfl rfl (by omega)) ?_
    refine Q.rn ?_; (repeat (intro b1; refine Q.rn ?_))
    have hrp : RdC (pt b (cl (p ++ q ++ rest) 3) :: pt vb (cl [x] 3) :: L) b 0 p := by
      have h : RdC (pt b (cl (p ++ q ++ rest) 3) :: pt vb (cl [x] 3) :: L) b 0 (p ++ q ++ rest) := RdC.row
      exact RdC.pre (RdC.pre h)
    refine S.appz (k := n + 1 - i) rfl rfl hrp (by omega) (by omega) (by omega) (by rfl) (by decide) (by omega) (by omega) (fun b' c' => ?_)
    rw [show i + (n + 1 - i) = n + 1 by omega]
    have hrl : (rep (n + 1 - i) [Value.int .i64 0]).length = q.length + 1 := by rw [rep_length]; simp; omega
    generalize hzs : rep (n + 1 - i) [Value.int .i64 0] = zs at hrl ⊢
    refine Q.r ?_; (repeat (intro b1; refine Q.r ?_))
    refine opsS_own b' (fun rs hm2 hc2 => ?_)
    have hcl2 : i + zs.length + rs.length = c' := by
      have h := hc2
      rw [List.length_append, List.length_append, hi, Nat.mul_one] at h; exact h
    refine S.y (Y.slF (l := i) rfl rfl rfl (by omega)) ?_
    rw [show (if c' = i then 0 else 0 + i * 1) = i by rw [if_neg (by omega)]; omega]
    refine Q.r ?_; (repeat (intro b1; refine Q.r ?_))
    refine S.cpy (l' := putAt (p ++ zs ++ rs) i [x]) (ys := [x]) rfl rfl RdC.row (by simp; omega) (by simp only [List.length_append, List.length_singleton, hrl]; omega) (by simpa using h1) rfl ?_
    refine Q.r ?_; (repeat (intro b1; refine Q.r ?_))
    refine Q.dgo [] [8] [] [0, 1, 2, 3, 4, 5, 6, 7, 8] ?_
    refine Q.rd ?_; (repeat (intro b1; refine Q.rd ?_))
    refine D.y rfl rfl rfl (by kernel_rfl) (Y.slF (l := i + 1) rfl rfl rfl (by omega)) ?_
    rw [show (if c' = i + 1 then 0 else 0 + (i + 1) * 1) = i + 1 by rw [if_neg (by omega)]; omega]
    refine Q.rd ?_; (repeat (intro b1; refine Q.rd ?_))
    refine D.y rfl rfl rfl (by kernel_rfl) (Y.slF (l := i) rfl rfl rfl (by omega)) ?_
    rw [show (if c = i then 0 else 0 + i * 1) = i by rw [if_neg (by omega)]; omega]
    refine Q.rd ?_; (repeat (intro b1; refine Q.rd ?_))
    refine D.e rfl rfl rfl ?_
    have hrq : RdC (pt b' (cl (putAt (p ++ zs ++ rs) i [x]) 3) :: pt b (cl (p ++ q ++ rest) 3) :: pt vb (cl [x] 3) :: L) b i q := by
      have h : RdC (pt b' (cl (putAt (p ++ zs ++ rs) i [x]) 3) :: pt b (cl (p ++ q ++ rest) 3) :: pt vb (cl [x] 3) :: L) b 0 (p ++ q ++ rest) := RdC.row
      have h2 := RdC.suf (RdC.pre h)
      rw [hi, Nat.zero_add] at h2; exact h2
    have hpl : (putAt (p ++ zs ++ rs) i [x]).length = (p ++ zs ++ rs).length := by
      unfold putAt; simp [List.length_append]; omega
    have hfin := ins_grow (p := p) (zs := zs) (q := q) (rest := rs) (x := x) hrl
    rw [hi] at hfin
    refine S.cpy (l' := (p ++ x :: q) ++ rs) (ys := q) rfl rfl hrq (by omega) (by rw [hpl, List.length_append, List.length_append, hi, hrl]; omega) h2 hfin ?_
    refine Q.r ?_; (repeat (intro b1; refine Q.r ?_))
    refine Q.rd ?_; (repeat (intro b1; refine Q.rd ?_))
    refine Q.r ?_; (repeat (intro b1; refine Q.r ?_))
    refine N.r1 (RV.tmp rfl RV.nil) ?_ ⟨some ⟨b', 0, none⟩, c', rfl, rfl⟩
    refine Ent.trans (M := pt b' (cl ((p ++ x :: q) ++ rs) 3) :: L) (by exact Go.SX.Ent.go) ?_
    exact slO_shut (by rw [List.length_append, List.length_cons, hi]; omega) (by omega) (by rw [List.length_append, List.length_append, List.length_cons, hi]; omega)
  · refine Q.r ?_; (repeat (intro b1; refine Q.r ?_))
    refine S.y (Y.slT (h := n + 1) rfl rfl (by omega) (by omega)) ?_
    refine Q.r ?_; (repeat (intro b1; refine Q.r ?_))
    refine S.y (Y.slF (l := i + 1) rfl rfl rfl (by omega)) ?_
    rw [show (if c = i + 1 then 0 else 0 + (i + 1) * 1) = i + 1 by rw [if_neg (by omega)]; omega]
    refine S.y (Y.ovl (tS := 31) (tR := 4) (b1 := vb) (b2 := b) (t1 := 3) (t2 := 3) (l1 := [x]) (l2 := p ++ q ++ rest) Tryd.func69 (by kernel_rfl) (by kernel_rfl) (by kernel_rfl) (by kernel_rfl) rfl rfl (by intro h; have h := congrArg List.length h; rw [List.length_append, List.length_append, List.length_nil] at h; omega)) ?_
    refine Q.r ?_; (repeat (intro b1; refine Q.r ?_))
    refine Q.dgo [] [8] [] [0, 1, 2, 3, 4, 5, 6, 7, 8] ?_
    refine Q.rd ?_; (repeat (intro b1; refine Q.rd ?_))
    refine D.y rfl rfl rfl (by kernel_rfl) (Y.slF (l := i + 1) rfl rfl rfl (by omega)) ?_
    rw [show (if c = i + 1 then 0 else 0 + (i + 1) * 1) = i + 1 by rw [if_neg (by omega)]; omega]
    refine Q.rd ?_; (repeat (intro b1; refine Q.rd ?_))
    refine D.y rfl rfl rfl (by kernel_rfl) (Y.slF (l := i) rfl rfl rfl (by omega)) ?_
    rw [show (if c = i then 0 else 0 + i * 1) = i by rw [if_neg (by omega)]; omega]
    refine Q.rd ?_; (repeat (intro b1; refine Q.rd ?_))
    refine D.e rfl rfl rfl ?_
    have hrq : RdC (pt b (cl (p ++ q ++ rest) 3) :: pt vb (cl [x] 3) :: L) b i q := by
      have h : RdC (pt b (cl (p ++ q ++ rest) 3) :: pt vb (cl [x] 3) :: L) b 0 (p ++ q ++ rest) := RdC.row
      have h2 := RdC.suf (RdC.pre h)
      rw [hi, Nat.zero_add] at h2; exact h2
    have hpl : (putAt (p ++ q ++ rest) (i + 1) q).length = (p ++ q ++ rest).length := by
      unfold putAt; simp [List.length_append]; omega
    have hfin := ins_room (p := p) (q := q) (rest := rest) (x := x) (by omega)
    rw [hi] at hfin
    refine S.cpy (l' := putAt (p ++ q ++ rest) (i + 1) q) (ys := q) rfl rfl hrq (by omega) (by rw [List.length_append, List.length_append, hi]; omega) h2 rfl ?_
    refine Q.r ?_; (repeat (intro b1; refine Q.r ?_))
    refine Q.rd ?_; (repeat (intro b1; refine Q.rd ?_))
    refine Q.r ?_; (repeat (intro b1; refine Q.r ?_))
    refine S.y (Y.slF (l := i) rfl rfl rfl (by omega)) ?_
    rw [show (if c = i then 0 else 0 + i * 1) = i by rw [if_neg (by omega)]; omega]
    refine Q.r ?_; (repeat (intro b1; refine Q.r ?_))
    refine S.cpy (l' := (p ++ x :: q) ++ rest.drop 1) (ys := [x]) rfl rfl RdC.row (by simp; omega) (by rw [hpl, List.length_append, List.length_append, hi, List.length_singleton]; omega) (by simpa using h1) hfin ?_
    refine Q.r ?_; (repeat (intro b1; refine Q.r ?_))
    refine N.r1 (RV.tmp rfl RV.nil) ?_ ⟨some ⟨b, 0, none⟩, c, rfl, rfl⟩
    refine Ent.trans (M := pt b (cl ((p ++ x :: q) ++ rest.drop 1) 3) :: L) (by exact Go.SX.Ent.go) ?_
    exact slO_shut (by rw [List.length_append, List.length_cons, hi]; omega) (by omega) (by rw [List.length_append, List.length_append, List.length_cons, List.length_drop, hi]; omega)
set_option maxHeartbeats 1000000 in
theorem InsI_spec (a : Option Addr) (c i vb : Nat) (xs : List Int) (x : Int) (L : List HP) (hi : i ≤ xs.length) (hn : xs.length ≤ 1000000) :
    CallsS Tryd.prog 57 [.slice a xs.length c, .int .i64 i, .slice (some ⟨vb, 0, none⟩) 1 1] (slO 3 1 a xs.length c (xs.map I64) :: pt vb (cl [I64 x] 3) :: L)
      (fun r L' => ∃ a' c', r = .slice a' (xs.length + 1) c' ∧ L' = slO 3 1 a' (xs.length + 1) c' ((xs.take i ++ x :: xs.drop i).map I64) :: L) := by
  by_cases hin : i = xs.length
  · subst hin
    rw [List.take_length, List.drop_length]
    obtain ⟨n, hnn⟩ : ∃ n, n = xs.length := ⟨_, rfl⟩
    rw [← hnn]
    refine CallsS.slOc (fun e1 e2 e3 e4 => ?_) (fun b e h1 => ?_)
    · subst e1 e2 e3
      have hx : xs = [] := List.eq_nil_of_length_eq_zero hnn.symm
      subst hx
      refine CallsS.of_body Tryd.func57 rfl rfl rfl ?_
      refine Q.r ?_; (repeat (intro b1; refine Q.r ?_))
      refine S.y (Y.slFn rfl rfl rfl) ?_
      refine Q.r ?_; (repeat (intro b1; refine Q.r ?_))
      refine S.app rfl rfl (SrcS.sl RdC.row (by rfl) (by rfl)) (by rfl) (by omega) (by omega) (fun a7 c7 => ?_)
      refine Q.r ?_; (repeat (intro b1; refine Q.r ?_))
      exact N.r1 (RV.tmp rfl RV.nil) (Ent.cons (Ent.drop (Ent.refl _))) ⟨a7, c7, rfl, rfl⟩
    · subst e
      refine CallsS.of_body Tryd.func57 rfl rfl rfl ?_
      refine Q.r ?_; (repeat (intro b1; refine Q.r ?_))
      refine S.y (Y.slF (l := n) rfl rfl rfl (by omega)) ?_
      refine Q.r ?_; (repeat (intro b1; refine Q.r ?_))
      refine S.app rfl rfl (SrcS.sl RdC.row (by rfl) (by rfl)) (by rfl) (by omega) (by omega) (fun a7 c7 => ?_)
      refine Q.r ?_; (repeat (intro b1; refine Q.r ?_))
      refine N.r1 (RV.tmp rfl RV.nil) (Ent.cons (Ent.drop (Ent.refl _))) ⟨a7, c7, rfl, ?_⟩
      rw [List.map_append]; rfl
  have hlt : i < xs.length := by omega
  refine CallsS.slO (by omega) fun b rest ha hmc hlen => ?_
  subst ha
  have hl1 : ((xs.take i).map I64).length = i := by rw [List.length_map, List.length_take]; omega
  have hl2 : ((xs.drop i).map I64).length = xs.length - i := by rw [List.length_map, List.length_drop]
  have hx1 : xs.map I64 = (xs.take i).map I64 ++ (xs.drop i).map I64 := by rw [← List.map_append, List.take_append_drop]
  have hres : (xs.take i ++ x :: xs.drop i).map I64 = (xs.take i).map I64 ++ I64 x :: (xs.drop i).map I64 := by rw [List.map_append, List.map_cons]
  rw [hx1, hres]
  rw [hx1] at hlen
  exact InsI_in b c vb xs.length i _ _ rest (I64 x) L hl1 (by omega) (by omega) hn (by rw [hlen, Nat.mul_one]) rfl (P_one _)
theorem Gput_spec (a : Option Addr) (c : Nat) (xs : List Int) (x : Int) (A : List HP) (h : RdS A a xs.length 1 (xs.map I64)) (hn : xs.length ≤ 1000000) (hs : Rise xs) :
    CallsS Tryd.prog 44 [.slice a xs.length c, .int .i64 x] A (fun r L' => ∃ a' c', r = .slice a' (xs.length + 1) c' ∧ L' = slO 3 1 a' (xs.length + 1) c' ((putI xs x).map I64) :: A) := by
  have hpi : putI xs x = xs.take (cntI xs x) ++ x :: xs.drop (cntI xs x) := by
    unfold putI cntI
    have e := List.takeWhile_append_dropWhile (p := fun y => decide (y < x)) (l := xs)
    have e1 : xs.take (xs.takeWhile fun y => decide (y < x)).length = xs.takeWhile fun y => decide (y < x) := by
      conv => lhs; arg 2; rw [← e]
      exact List.take_left ..
    have e2 : xs.drop (xs.takeWhile fun y => decide (y < x)).length = xs.dropWhile fun y => decide (y < x) := by
      conv => lhs; arg 2; rw [← e]
      exact List.drop_left ..
    rw [e1, e2]
  have hle := cntI_le xs x
  refine CallsS.of_body Tryd.func44 rfl rfl rfl ?_
  refine Q.r ?_; (repeat (intro b1; refine Q.r ?_))
  refine S.cr rfl (BinI_spec a c xs x _ h hn hs) ?_
  rintro _ _ ⟨⟨b, rfl⟩, rfl⟩
  refine Q.r ?_; (repeat (intro b1; refine Q.r ?_))
  refine S.cr rfl (CloneP_spec a c xs _ h hn) ?_
  rintro _ _ ⟨ca, cc, rfl, rfl⟩
  refine Q.r ?_; (repeat (intro b1; refine Q.r ?_))
  refine S.c2 (A := slO 3 1 ca xs.length cc (xs.map I64)) rfl (InsI_spec ca cc (cntI xs x) b1 xs x _ hle hn) ?_
  rintro _ _ ⟨a', c', rfl, rfl⟩
  refine Q.r ?_; (repeat (intro b1; refine Q.r ?_))
  refine N.r1 (RV.tmp rfl RV.nil) ?_ ⟨a', c', rfl, by rw [hpi]⟩
  exact Go.SX.Ent.go
end Go.Proofs.YtiampehfpgcogaaDoor
namespace Go.Proofs.YtiampehfpgcogaaDoor
open Go Go.SX
attribute [local irreducible] swp opsS thenS blockS retS CallsS St Ent YieldS anyS drawS
abbrev nvG (m : Int × NA) : Int × NV := (m.1, m.2.nv)
abbrev toldV (t : TR) (stamp code : Int) : List (Int × NV) := (toldM t stamp code).map nvG
theorem toldV_len (t : TR) (s c : Int) : (toldV t s c).length = t.parts.length + 1 := by rw [List.length_map, toldM_len]
theorem toldV_abs (t : TR) (s c : Int) : (toldV t s c).map (fun m : Int × NV => (m.1, m.2.abs)) = toldM t s c := nvm_abs (toldM_abs t s c)
theorem toldV_ok {M : Nat → Option Obj} (t : TR) (s c : Int) : ∀ m ∈ toldV t s c, okN M m.2 := fun m hm => by
  obtain ⟨u, _, rfl⟩ := List.mem_map.1 hm
  exact okN.nv u.2
theorem GtoldV_spec (t : Nat × TV) (stamp code : Int) (M : Nat → Option Obj) (L : List HP) (ht : okT M t.2) :
    CallsS Tryd.prog 39 [ptT t, .int .u64 stamp, .int .i64 code] (oneT t :: roM M :: L) (fun r L' => ∃ a' c', r = .slice a' (toldV t.2.abs stamp code).length c' ∧ L' = slO 49 17 a' (toldV t.2.abs stamp code).length c' ((toldV t.2.abs stamp code).flatMap mcells) :: oneT t :: roM M :: L) := by
  have h := Gtold_spec t stamp code M L ht
  rw [show t.2.parts.length + 1 = (toldV t.2.abs stamp code).length from (toldV_len t.2.abs stamp code).symm, show (toldM t.2.abs stamp code).flatMap mailC = (toldV t.2.abs stamp code).flatMap mcells from (by rw [List.flatMap_map])] at h
  exact h
set_option maxHeartbeats 1000000 in
theorem Gvote_spec (n : NV) (M : Nat → Option Obj) (p : Nat) (j : JG) (fr : Int) (L : List HP) (h0 : 0 ≤ j.last) (h1 : j.last ≤ 1099511627776) :
    CallsS Tryd.prog 20 [ptrG p, .int .i64 fr, n.val] (jdgH M p j :: roM M :: L) (planGR0 M p j (voteG j fr n.abs) L) := by
  unfold voteG
  refine calls_jdg fun mt md ts hq => ?_
  refine CallsS.of_body Tryd.func20 rfl rfl rfl ?_
  refine Q.r ?_; (repeat (intro b1; refine Q.r ?_))
  rename_i b5
  revert b1
  intro b6
  refine Q.dgo [true, true, true, true, true, true, true] [] [] [0, 1, 2, 3, 4, 5, 6, 7] ?_
  refine Q.rd ?_; (repeat (intro b1; refine Q.rd ?_))
  refine D.y rfl rfl rfl (by kernel_rfl) (Y.lk false rfl rfl (fun w => Tryd.zeroValue70 w)) ?_
  rw [lk_tr hq.tr n.txn]
  cases hz : lkL (α := Nat × TV) ts n.txn with
  | none =>
    dsimp only [Option.map_none]
    refine Q.rd ?_; (repeat (intro b1; refine Q.rd ?_))
    refine Q.r ?_; (repeat (intro b1; refine Q.r ?_))
    exact N.r1 (by apply RV.cellN; rfl; exact RdC.row; rfl; exact RV.nil) (Ent.trans (Ent.trans (M := gP p j mt md :: gT mt ts :: trsH ts :: gD md j.done :: roM M :: L) (by exact Go.SX.Ent.go) (jdg_shut hq)) nil5) (planGR0.none M p j L)
  | some u =>
    obtain ⟨k, hk⟩ := lk_idx hz
    have hu : okT M u.2 := hq.ok _ (List.mem_of_getElem? hk)
    have hpl := hu.pl
    have hyl := hu.yl
    dsimp only [Option.map_some]
    refine Q.rd ?_; (repeat (intro b1; refine Q.rd ?_))
    refine Q.r ?_; (repeat (intro b1; refine Q.r ?_))
    refine opsS_trs hk ?_
    by_cases hs : 0 < u.2.stamp
    · rw [if_pos (.inl hs)]
      refine Q.r ?_; (repeat (intro b1; refine Q.r ?_))
      exact N.r1 (by apply RV.cellN; rfl; exact RdC.row; rfl; exact RV.nil) (Ent.trans (Ent.trans (M := gP p j mt md :: gT mt ts :: oneT u :: trsH (ts.eraseIdx k) :: gD md j.done :: roM M :: L) (by exact Go.SX.Ent.go) (jdg_shut1 hk hq)) nil5) (planGR0.none M p j L)
    refine Q.r ?_; (repeat (intro b1; refine Q.r ?_))
    refine S.cr rfl (ContainsP_spec u.2.pa u.2.pc u.2.parts fr _ hu.p.rd hpl) ?_
    rintro _ _ ⟨rfl, rfl⟩
    by_cases hc : fr ∈ u.2.parts
    case neg =>
      rw [if_pos (.inr hc), decide_eq_false hc]
      refine Q.r ?_; (repeat (intro b1; refine Q.r ?_))
      exact N.r1 (by apply RV.cellN; rfl; exact RdC.row; rfl; exact RV.nil) (Ent.trans (Ent.trans (M := gP p j mt md :: gT mt ts :: oneT u :: trsH (ts.eraseIdx k) :: gD md j.done :: roM M :: L) (by exact Go.SX.Ent.go) (jdg_shut1 hk hq)) nil5) (planGR0.none M p j L)
    rw [if_neg (show ¬ (0 < u.2.abs.stamp ∨ fr ∉ u.2.abs.parts) from fun h => h.elim hs (fun h => h hc)), decide_eq_true hc]
    by_cases hco : n.code = 0
    case neg =>
      rw [if_pos hco]
      refine Q.r ?_; (repeat (intro b1; refine Q.r ?_))
      refine Q.dgo [false, false, false, true] [1, 5, 7] [] [0, 2, 3, 4, 1, 5, 6, 7] ?_
      refine Q.rd ?_; (repeat (intro b1; refine Q.rd ?_))
      refine D.e rfl rfl rfl ?_
      refine S.c1 rfl (Ggone_spec u _) ?_
      rintro _ _ ⟨bg, rfl, rfl⟩
      refine Q.r ?_; (repeat (intro b1; refine Q.r ?_))
      refine Q.rd ?_; (repeat (intro b1; refine Q.rd ?_))
      refine D.e rfl rfl rfl ?_
      refine S.c2 rfl (GtoldV_spec u 0 n.code M _ hu) ?_
      rintro _ _ ⟨a3, c3, rfl, rfl⟩
      have hta := toldV_abs u.2.abs 0 n.code
      have hto := toldV_ok (M := M) u.2.abs 0 n.code
      generalize toldV u.2.abs 0 n.code = ms at hta hto ⊢
      refine Q.r ?_; (repeat (intro b1; refine Q.r ?_))
      refine Q.rd ?_; (repeat (intro b1; refine Q.rd ?_))
      refine Q.r ?_; (repeat (intro b1; refine Q.r ?_))
      refine N.r1 (by apply RV.cellN; rfl; exact RdC.row; rfl; exact RV.nil) (Ent.trans (M := slO 39 16 (some ⟨bg, 0, none⟩) 1 1 (goneN u.2.txn).nv.cells :: slO 49 17 a3 ms.length c3 (ms.flatMap mcells) :: gP p j mt md :: gT mt ts :: oneT u :: trsH (ts.eraseIdx k) :: gD md j.done :: roM M :: L) (by exact Go.SX.Ent.go) (Ent.trans (Ent.cons (Ent.cons (jdg_shut1 hk hq))) ?_)) ⟨none, 0, [], some ⟨bg, 0, none⟩, 1, [(goneN u.2.txn).nv], a3, c3, ms, none, 0, [], none, 0, [], M, rfl, leM.refl M, ⟨fun _ h => (by cases h), fun m hm => by rw [List.mem_singleton.1 hm]; exact okN.nv _, hto, fun _ h => (by cases h), fun _ h => (by cases h)⟩, ⟨rfl, rfl, hta, rfl, rfl⟩, rfl⟩
      show Ent _ (slO 39 16 none 0 0 [] :: slO 39 16 (some ⟨bg, 0, none⟩) 1 1 (goneN u.2.txn).nv.cells :: slO 49 17 a3 ms.length c3 (ms.flatMap mcells) :: slO 39 16 none 0 0 [] :: slO 49 17 none 0 0 [] :: jdgH M p j :: roM M :: L)
      exact Go.SX.Ent.go
    rw [if_neg (show ¬ n.abs.code ≠ 0 from fun h => h hco)]
    refine Q.r ?_; (repeat (intro b1; refine Q.r ?_))
    refine S.cr rfl (ContainsP_spec u.2.ya u.2.yc u.2.yes fr _ hu.y.rd hyl) ?_
    rintro _ _ ⟨rfl, rfl⟩
    by_cases hd : fr ∈ u.2.yes
    · rw [if_pos hd, decide_eq_true hd]
      refine Q.r ?_; (repeat (intro b1; refine Q.r ?_))
      exact N.r1 (by apply RV.cellN; rfl; exact RdC.row; rfl; exact RV.nil) (Ent.trans (Ent.trans (M := gP p j mt md :: gT mt ts :: oneT u :: trsH (ts.eraseIdx k) :: gD md j.done :: roM M :: L) (by exact Go.SX.Ent.go) (jdg_shut1 hk hq)) nil5) (planGR0.none M p j L)
    rw [if_neg hd, decide_eq_false hd]
    refine Q.r ?_; (repeat (intro b1; refine Q.r ?_))
    refine S.cr rfl (GlastOf_spec u u.2.ya u.2.yes.length u.2.yc _ hyl hpl) ?_
    rintro _ _ ⟨rfl, rfl⟩
    by_cases hl : u.2.yes.length + 1 = u.2.parts.length
    · rw [if_neg (fun h => h hl), decide_eq_true hl]
      refine Q.r ?_; (repeat (intro b1; refine Q.r ?_))
      refine swp_cutT (σ := Nat × NV × (Nat → Option Obj)) (fun s => [(5, .pointer (some ⟨b5, 0, none⟩)), (6, .pointer (some ⟨b6, 0, none⟩)), (7, ptT u), (8, .pointer (some ⟨s.1, 0, none⟩))])
        (fun s => pt s.1 (cl s.2.1.cells 39) :: pt b6 (cl [.slice none 0 0, .slice none 0 0, .slice none 0 0, .slice none 0 0, .slice none 0 0] 44) :: oneT u :: trsH (ts.eraseIdx k) :: gP p j mt md :: gT mt ts :: gD md j.done :: roM s.2.2 :: L) (fun s => leM M s.2.2 ∧ okN s.2.2 s.2.1 ∧ s.2.1.abs = { NA.zero with kind := 17, txn := u.2.txn, batch := u.2.batch, stamp := j.last + 1, parts := u.2.parts }) ?_ ?_
      · refine Q.dgo [true, false, false, false, true] [20, 22, 23] [] [0, 1, 2, 3, 4, 5, 6, 7, 8, 9, 10, 11, 12, 13, 14, 15, 16, 17, 18, 19, 99999, 0, 0, 0] ?_
        refine Q.rd ?_; (repeat (intro b1; refine Q.rd ?_))
        refine D.y rfl rfl rfl (by kernel_rfl) (Y.add rfl rfl) ?_
        rw [wrap_u64 (by omega) (by omega)]
        refine Q.rd ?_; (repeat (intro b1; refine Q.rd ?_))
        refine D.two 20 22 [21, 22, 23] [20, 21, 23] (by kernel_rfl) rfl rfl rfl rfl (by kernel_rfl) (by kernel_rfl) ?_ ?_
        · refine S.cr rfl (CloneP_spec u.2.pa u.2.pc u.2.parts _ hu.p.rd hpl) ?_
          rintro _ _ ⟨ca, cc, rfl, rfl⟩
          refine opsS_abs ca (fun M1 hl1 hs1 => ?_)
          refine Q.r ?_; (repeat (intro b1; refine Q.r ?_))
          refine Q.rd ?_; (repeat (intro b1; refine Q.rd ?_))
          refine N.tn ⟨(b1, ⟨17, u.2.txn, u.2.batch, j.last + 1, 0, 0, 0, 0, 0, 0, 0, 0, ca, cc, u.2.parts, none, 0, [], none, 0, [], none, 0, []⟩, M1), ⟨rfl, rfl, rfl, rfl, trivial⟩, ?_, hl1, ⟨hs1, ⟨SlM.nil0, fun o ho => by cases ho⟩, SlM.nil0, SlM.nil0, fun o ho => by cases ho⟩, rfl⟩
          (try dsimp only); exact Go.SX.Ent.go
        · refine GQ.a ?_
          refine Q.al (fun b8 => ?_)
          refine Q.r ?_; (repeat (intro b1; refine Q.r ?_))
          refine Q.rd ?_; (repeat (intro b1; refine Q.rd ?_))
          refine D.e rfl rfl rfl ?_
          refine S.cr rfl (CloneP_spec u.2.pa u.2.pc u.2.parts _ hu.p.rd hpl) ?_
          rintro _ _ ⟨ca, cc, rfl, rfl⟩
          refine opsS_abs ca (fun M1 hl1 hs1 => ?_)
          refine Q.r ?_; (repeat (intro b1; refine Q.r ?_))
          refine Q.rd ?_; (repeat (intro b1; refine Q.rd ?_))
          refine N.tn ⟨(b8, ⟨17, u.2.txn, u.2.batch, j.last + 1, 0, 0, 0, 0, 0, 0, 0, 0, ca, cc, u.2.parts, none, 0, [], none, 0, [], none, 0, []⟩, M1), ⟨rfl, rfl, rfl, rfl, trivial⟩, ?_, hl1, ⟨hs1, ⟨SlM.nil0, fun o ho => by cases ho⟩, SlM.nil0, SlM.nil0, fun o ho => by cases ho⟩, rfl⟩
          (try dsimp only); exact Go.SX.Ent.go
      · rintro ⟨b8, cn, M1⟩ ⟨hl1, hcn, hca⟩
        dsimp only at hl1 hcn hca ⊢
        refine Q.r ?_; (repeat (intro b1; refine Q.r ?_))
        refine Q.dgo [true, false, false, false] [1, 5, 7, 9, 11] [] [0, 2, 3, 4, 6, 8, 99999, 0, 0, 0, 0, 0] ?_
        have hca1 : [cn].map NV.abs = [{ NA.zero with kind := 17, txn := u.2.txn, batch := u.2.batch, stamp := j.last + 1, parts := u.2.parts }] := congrArg (fun z => [z]) hca
        have hst : cn.stamp = j.last + 1 := congrArg NA.stamp hca
        have hta : (toldV u.2.abs cn.stamp 0).map (fun m : Int × NV => (m.1, m.2.abs)) = toldM u.2.abs (j.last + 1) 0 := by rw [hst]; exact toldV_abs _ _ _
        refine Q.rd ?_; (repeat (intro b1; refine Q.rd ?_))
        refine D.two 1 5 [5, 7, 9, 10, 11] [99999, 0, 0, 0, 0] (by kernel_rfl) rfl rfl rfl rfl (by kernel_rfl) (by kernel_rfl) ?_ ?_
        · refine Q.r ?_; (repeat (intro b1; refine Q.r ?_))
          refine Q.rd ?_; (repeat (intro b1; refine Q.rd ?_))
          refine D.e rfl rfl rfl ?_
          refine S.c2 rfl (GtoldV_spec u cn.stamp 0 M1 _ (hu.mono hl1)) ?_
          rintro _ _ ⟨a3, c3, rfl, rfl⟩
          refine Q.r ?_; (repeat (intro b1; refine Q.r ?_))
          refine Q.rd ?_; (repeat (intro b1; refine Q.rd ?_))
          refine D.e rfl rfl rfl ?_
          refine S.c1 rfl (Ggone_spec u _) ?_
          rintro _ _ ⟨bg, rfl, rfl⟩
          refine Q.r ?_; (repeat (intro b1; refine Q.r ?_))
          refine Q.rd ?_; (repeat (intro b1; refine Q.rd ?_))
          refine D.e rfl rfl rfl ?_
          refine S.c2 rfl (GtoldV_spec u 0 8 M1 _ (hu.mono hl1)) ?_
          rintro _ _ ⟨a5, c5, rfl, rfl⟩
          refine Q.r ?_; (repeat (intro b1; refine Q.r ?_))
          refine Q.rd ?_; (repeat (intro b1; refine Q.rd ?_))
          refine Q.r ?_; (repeat (intro b1; refine Q.r ?_))
          refine N.r1 (by apply RV.cellN; rfl; exact RdC.row; rfl; exact RV.nil) (Ent.trans (M := pt b1 (cl cn.cells 39) :: slO 49 17 a3 (toldV u.2.abs cn.stamp 0).length c3 ((toldV u.2.abs cn.stamp 0).flatMap mcells) :: slO 39 16 (some ⟨bg, 0, none⟩) 1 1 (goneN u.2.txn).nv.cells :: slO 49 17 a5 (toldV u.2.abs 0 8).length c5 ((toldV u.2.abs 0 8).flatMap mcells) :: gP p j mt md :: gT mt ts :: oneT u :: trsH (ts.eraseIdx k) :: gD md j.done :: roM M1 :: L) (by exact Go.SX.Ent.go) (Ent.trans (Ent.cons (Ent.cons (Ent.cons (Ent.cons (jdg_shut1 hk (hq.mono hl1)))))) (Ent.trans (slO_fold (sz := 16) (m := 1) rfl) ?_))) ⟨some ⟨b1, 0, none⟩, 1, [cn], none, 0, [], a3, c3, toldV u.2.abs cn.stamp 0, some ⟨bg, 0, none⟩, 1, [(goneN u.2.txn).nv], a5, c5, toldV u.2.abs 0 8, M1, rfl, hl1, ⟨fun m hm => by rw [List.mem_singleton.1 hm]; exact hcn, fun _ h => (by cases h), toldV_ok _ _ _, fun m hm => by rw [List.mem_singleton.1 hm]; exact okN.nv _, toldV_ok _ _ _⟩, ⟨hca1, rfl, hta, rfl, toldV_abs _ _ _⟩, rfl⟩
          show Ent _ (slO 39 16 (some ⟨b1, 0, none⟩) 1 1 cn.cells :: slO 39 16 none 0 0 [] :: slO 49 17 a3 (toldV u.2.abs cn.stamp 0).length c3 ((toldV u.2.abs cn.stamp 0).flatMap mcells) :: slO 39 16 (some ⟨bg, 0, none⟩) 1 1 (goneN u.2.txn).nv.cells :: slO 49 17 a5 (toldV u.2.abs 0 8).length c5 ((toldV u.2.abs 0 8).flatMap mcells) :: jdgH M1 p j :: roM M1 :: L)
          exact Go.SX.Ent.go
        · refine S.c2 rfl (GtoldV_spec u cn.stamp 0 M1 _ (hu.mono hl1)) ?_
          rintro _ _ ⟨a3, c3, rfl, rfl⟩
          refine Q.r ?_; (repeat (intro b1; refine Q.r ?_))
          refine Q.rd ?_; (repeat (intro b1; refine Q.rd ?_))
          refine D.two 1 7 [7, 9, 10, 11] [99999, 0, 0, 0] (by kernel_rfl) rfl rfl rfl rfl (by kernel_rfl) (by kernel_rfl) ?_ ?_
          · refine Q.r ?_; (repeat (intro b1; refine Q.r ?_))
            refine Q.rd ?_; (repeat (intro b1; refine Q.rd ?_))
            refine D.e rfl rfl rfl ?_
            refine S.c1 rfl (Ggone_spec u _) ?_
            rintro _ _ ⟨bg, rfl, rfl⟩
            refine Q.r ?_; (repeat (intro b1; refine Q.r ?_))
            refine Q.rd ?_; (repeat (intro b1; refine Q.rd ?_))
            refine D.e rfl rfl rfl ?_
            refine S.c2 rfl (GtoldV_spec u 0 8 M1 _ (hu.mono hl1)) ?_
            rintro _ _ ⟨a5, c5, rfl, rfl⟩
            refine Q.r ?_; (repeat (intro b1; refine Q.r ?_))
            refine Q.rd ?_; (repeat (intro b1; refine Q.rd ?_))
            refine Q.r ?_; (repeat (intro b1; refine Q.r ?_))
            refine N.r1 (by apply RV.cellN; rfl; exact RdC.row; rfl; exact RV.nil) (Ent.trans (M := pt b1 (cl cn.cells 39) :: slO 49 17 a3 (toldV u.2.abs cn.stamp 0).length c3 ((toldV u.2.abs cn.stamp 0).flatMap mcells) :: slO 39 16 (some ⟨bg, 0, none⟩) 1 1 (goneN u.2.txn).nv.cells :: slO 49 17 a5 (toldV u.2.abs 0 8).length c5 ((toldV u.2.abs 0 8).flatMap mcells) :: gP p j mt md :: gT mt ts :: oneT u :: trsH (ts.eraseIdx k) :: gD md j.done :: roM M1 :: L) (by exact Go.SX.Ent.go) (Ent.trans (Ent.cons (Ent.cons (Ent.cons (Ent.cons (jdg_shut1 hk (hq.mono hl1)))))) (Ent.trans (slO_fold (sz := 16) (m := 1) rfl) ?_))) ⟨some ⟨b1, 0, none⟩, 1, [cn], none, 0, [], a3, c3, toldV u.2.abs cn.stamp 0, some ⟨bg, 0, none⟩, 1, [(goneN u.2.txn).nv], a5, c5, toldV u.2.abs 0 8, M1, rfl, hl1, ⟨fun m hm => by rw [List.mem_singleton.1 hm]; exact hcn, fun _ h => (by cases h), toldV_ok _ _ _, fun m hm => by rw [List.mem_singleton.1 hm]; exact okN.nv _, toldV_ok _ _ _⟩, ⟨hca1, rfl, hta, rfl, toldV_abs _ _ _⟩, rfl⟩
            show Ent _ (slO 39 16 (some ⟨b1, 0, none⟩) 1 1 cn.cells :: slO 39 16 none 0 0 [] :: slO 49 17 a3 (toldV u.2.abs cn.stamp 0).length c3 ((toldV u.2.abs cn.stamp 0).flatMap mcells) :: slO 39 16 (some ⟨bg, 0, none⟩) 1 1 (goneN u.2.txn).nv.cells :: slO 49 17 a5 (toldV u.2.abs 0 8).length c5 ((toldV u.2.abs 0 8).flatMap mcells) :: jdgH M1 p j :: roM M1 :: L)
            exact Go.SX.Ent.go
          · refine S.c1 rfl (Ggone_spec u _) ?_
            rintro _ _ ⟨bg, rfl, rfl⟩
            refine Q.r ?_; (repeat (intro b1; refine Q.r ?_))
            refine Q.rd ?_; (repeat (intro b1; refine Q.rd ?_))
            refine D.two 1 9 [9, 10, 11] [1, 10, 11] (by kernel_rfl) rfl rfl rfl rfl (by kernel_rfl) (by kernel_rfl) ?_ ?_
            · refine Q.r ?_; (repeat (intro b1; refine Q.r ?_))
              refine Q.rd ?_; (repeat (intro b1; refine Q.rd ?_))
              refine D.e rfl rfl rfl ?_
              refine S.c2 rfl (GtoldV_spec u 0 8 M1 _ (hu.mono hl1)) ?_
              rintro _ _ ⟨a5, c5, rfl, rfl⟩
              refine Q.r ?_; (repeat (intro b1; refine Q.r ?_))
              refine Q.rd ?_; (repeat (intro b1; refine Q.rd ?_))
              refine Q.r ?_; (repeat (intro b1; refine Q.r ?_))
              refine N.r1 (by apply RV.cellN; rfl; exact RdC.row; rfl; exact RV.nil) (Ent.trans (M := pt b1 (cl cn.cells 39) :: slO 49 17 a3 (toldV u.2.abs cn.stamp 0).length c3 ((toldV u.2.abs cn.stamp 0).flatMap mcells) :: slO 39 16 (some ⟨bg, 0, none⟩) 1 1 (goneN u.2.txn).nv.cells :: slO 49 17 a5 (toldV u.2.abs 0 8).length c5 ((toldV u.2.abs 0 8).flatMap mcells) :: gP p j mt md :: gT mt ts :: oneT u :: trsH (ts.eraseIdx k) :: gD md j.done :: roM M1 :: L) (by exact Go.SX.Ent.go) (Ent.trans (Ent.cons (Ent.cons (Ent.cons (Ent.cons (jdg_shut1 hk (hq.mono hl1)))))) (Ent.trans (slO_fold (sz := 16) (m := 1) rfl) ?_))) ⟨some ⟨b1, 0, none⟩, 1, [cn], none, 0, [], a3, c3, toldV u.2.abs cn.stamp 0, some ⟨bg, 0, none⟩, 1, [(goneN u.2.txn).nv], a5, c5, toldV u.2.abs 0 8, M1, rfl, hl1, ⟨fun m hm => by rw [List.mem_singleton.1 hm]; exact hcn, fun _ h => (by cases h), toldV_ok _ _ _, fun m hm => by rw [List.mem_singleton.1 hm]; exact okN.nv _, toldV_ok _ _ _⟩, ⟨hca1, rfl, hta, rfl, toldV_abs _ _ _⟩, rfl⟩
              show Ent _ (slO 39 16 (some ⟨b1, 0, none⟩) 1 1 cn.cells :: slO 39 16 none 0 0 [] :: slO 49 17 a3 (toldV u.2.abs cn.stamp 0).length c3 ((toldV u.2.abs cn.stamp 0).flatMap mcells) :: slO 39 16 (some ⟨bg, 0, none⟩) 1 1 (goneN u.2.txn).nv.cells :: slO 49 17 a5 (toldV u.2.abs 0 8).length c5 ((toldV u.2.abs 0 8).flatMap mcells) :: jdgH M1 p j :: roM M1 :: L)
              exact Go.SX.Ent.go
            · refine S.c2 rfl (GtoldV_spec u 0 8 M1 _ (hu.mono hl1)) ?_
              rintro _ _ ⟨a5, c5, rfl, rfl⟩
              refine Q.r ?_; (repeat (intro b1; refine Q.r ?_))
              refine Q.rd ?_; (repeat (intro b1; refine Q.rd ?_))
              refine Q.r ?_; (repeat (intro b1; refine Q.r ?_))
              refine N.r1 (by apply RV.cellN; rfl; exact RdC.row; rfl; exact RV.nil) (Ent.trans (M := pt b1 (cl cn.cells 39) :: slO 49 17 a3 (toldV u.2.abs cn.stamp 0).length c3 ((toldV u.2.abs cn.stamp 0).flatMap mcells) :: slO 39 16 (some ⟨bg, 0, none⟩) 1 1 (goneN u.2.txn).nv.cells :: slO 49 17 a5 (toldV u.2.abs 0 8).length c5 ((toldV u.2.abs 0 8).flatMap mcells) :: gP p j mt md :: gT mt ts :: oneT u :: trsH (ts.eraseIdx k) :: gD md j.done :: roM M1 :: L) (by exact Go.SX.Ent.go) (Ent.trans (Ent.cons (Ent.cons (Ent.cons (Ent.cons (jdg_shut1 hk (hq.mono hl1)))))) (Ent.trans (slO_fold (sz := 16) (m := 1) rfl) ?_))) ⟨some ⟨b1, 0, none⟩, 1, [cn], none, 0, [], a3, c3, toldV u.2.abs cn.stamp 0, some ⟨bg, 0, none⟩, 1, [(goneN u.2.txn).nv], a5, c5, toldV u.2.abs 0 8, M1, rfl, hl1, ⟨fun m hm => by rw [List.mem_singleton.1 hm]; exact hcn, fun _ h => (by cases h), toldV_ok _ _ _, fun m hm => by rw [List.mem_singleton.1 hm]; exact okN.nv _, toldV_ok _ _ _⟩, ⟨hca1, rfl, hta, rfl, toldV_abs _ _ _⟩, rfl⟩
              show Ent _ (slO 39 16 (some ⟨b1, 0, none⟩) 1 1 cn.cells :: slO 39 16 none 0 0 [] :: slO 49 17 a3 (toldV u.2.abs cn.stamp 0).length c3 ((toldV u.2.abs cn.stamp 0).flatMap mcells) :: slO 39 16 (some ⟨bg, 0, none⟩) 1 1 (goneN u.2.txn).nv.cells :: slO 49 17 a5 (toldV u.2.abs 0 8).length c5 ((toldV u.2.abs 0 8).flatMap mcells) :: jdgH M1 p j :: roM M1 :: L)
              exact Go.SX.Ent.go
    · rw [if_pos hl, decide_eq_false hl]
      refine Q.r ?_; (repeat (intro b1; refine Q.r ?_))
      refine N.r1 (by apply RV.cellN; rfl; exact RdC.row; rfl; exact RV.nil) (Ent.trans (M := pt b1 (cl (NA.nv { NA.zero with kind := 20, txn := n.txn, who := fr }).cells 39) :: gP p j mt md :: gT mt ts :: oneT u :: trsH (ts.eraseIdx k) :: gD md j.done :: roM M :: L) (by exact Go.SX.Ent.go) (Ent.trans (Ent.cons (jdg_shut1 hk hq)) (Ent.trans (slO_fold (sz := 16) (m := 1) rfl) ?_))) ⟨none, 0, [], some ⟨b1, 0, none⟩, 1, [NA.nv { NA.zero with kind := 20, txn := n.txn, who := fr }], none, 0, [], none, 0, [], none, 0, [], M, rfl, leM.refl M, ⟨fun _ h => (by cases h), fun m hm => by rw [List.mem_singleton.1 hm]; exact okN.nv _, fun _ h => (by cases h), fun _ h => (by cases h), fun _ h => (by cases h)⟩, ⟨rfl, rfl, rfl, rfl, rfl⟩, rfl⟩
      show Ent _ (slO 39 16 none 0 0 [] :: slO 39 16 (some ⟨b1, 0, none⟩) 1 1 (NA.nv { NA.zero with kind := 20, txn := n.txn, who := fr }).cells :: slO 49 17 none 0 0 [] :: slO 39 16 none 0 0 [] :: slO 49 17 none 0 0 [] :: jdgH M p j :: roM M :: L)
      exact Go.SX.Ent.go
end Go.Proofs.YtiampehfpgcogaaDoor
namespace Go.Proofs.YtiampehfpgcogaaDoor
open Go Go.SX
theorem nodup_le {l m : List Int} (h : l.Nodup) (hs : ∀ x ∈ l, x ∈ m) : l.length ≤ m.length := by
  induction l generalizing m with
  | nil => exact Nat.zero_le _
  | cons a l ih =>
    have h2 := List.nodup_cons.1 h
    have hm := hs a (List.mem_cons_self ..)
    have := ih (m := m.erase a) h2.2 (fun x hx => (List.mem_erase_of_ne (by rintro rfl; exact h2.1 hx)).2 (hs x (List.mem_cons_of_mem _ hx)))
    rw [List.length_erase_of_mem hm] at this
    have := List.length_pos_of_mem hm
    rw [List.length_cons]; omega
theorem nodup_all {l m : List Int} {a : Int} (h : l.Nodup) (hs : ∀ x ∈ l, x ∈ m) (ha : a ∈ m) (hn : a ∉ l) (hl : l.length + 1 = m.length) : ∀ x ∈ m, x = a ∨ x ∈ l := by
  intro x hx
  by_cases h1 : x = a
  · exact .inl h1
  by_cases h2 : x ∈ l
  · exact .inr h2
  have := nodup_le (l := x :: a :: l) (m := m) (List.nodup_cons.2 ⟨by simp [h1, h2], List.nodup_cons.2 ⟨hn, h⟩⟩) (fun y hy => by
    rcases List.mem_cons.1 hy with rfl | hy
    · exact hx
    · rcases List.mem_cons.1 hy with rfl | hy
      · exact ha
      · exact hs y hy)
  simp only [List.length_cons] at this; omega
structure OneT (j : JG) (Y : Int → Int → Prop) (D : List (Int × Int)) (x : Int) (t : TR) : Prop where
  xx : t.txn = x
  x1 : 1 ≤ x
  x2 : x ≤ j.seq
  r : Rise t.parts
  pb : ∀ q ∈ t.parts, 1 ≤ q ∧ q ≤ 3
  yn : t.yes.Nodup
  ys : ∀ q ∈ t.yes, q ∈ t.parts ∧ Y x q
  st : 0 ≤ t.stamp
  d : t.stamp = 0 → lkL D x = none
  b : t.stamp = 0 → lkL j.done t.batch = none
structure GI (j : JG) (k : Nat) (Y : Int → Int → Prop) (D : List (Int × Int)) : Prop where
  e : j.epoch = 0
  sh : j.shards = 3
  s0 : 0 ≤ j.seq
  s1 : j.seq ≤ k
  l0 : 0 ≤ j.last
  l1 : j.last ≤ k
  kt : keysOK j.tr
  kd : keysOK j.done
  kD : keysOK D
  tx : ∀ x t, lkL j.tr x = some t → OneT j Y D x t
  dd : ∀ t s, lkL D t = some s → t ≤ j.seq ∧ s ≠ 0
  dp : ∀ t s, lkL j.done t = some s → s ≠ 0
  b1 : ∀ x t y u, lkL j.tr x = some t → lkL j.tr y = some u → t.stamp = 0 → u.stamp = 0 → t.batch = u.batch → x = y
theorem OneT.to {j j' : JG} {Y Y' : Int → Int → Prop} {D : List (Int × Int)} {x : Int} {t : TR} (h : OneT j Y D x t) (hs : j.seq ≤ j'.seq) (hd : j'.done = j.done) (hY : ∀ x q, Y x q → Y' x q) : OneT j' Y' D x t :=
  ⟨h.xx, h.x1, by have := h.x2; omega, h.r, h.pb, h.yn, fun q hq => ⟨(h.ys q hq).1, hY _ _ (h.ys q hq).2⟩, h.st, h.d, by rw [hd]; exact h.b⟩
theorem GI.le {j : JG} {k k' : Nat} {Y Y' : Int → Int → Prop} {D : List (Int × Int)} (h : GI j k Y D) (hk : k ≤ k') (hY : ∀ x q, Y x q → Y' x q) : GI j k' Y' D :=
  ⟨h.e, h.sh, h.s0, by have := h.s1; omega, h.l0, by have := h.l1; omega, h.kt, h.kd, h.kD, fun x t ht => (h.tx x t ht).to (Int.le_refl _) rfl hY, h.dd, h.dp, h.b1⟩
theorem GI.put {j : JG} {k : Nat} {Y : Int → Int → Prop} {D : List (Int × Int)} (h : GI j k Y D) {x : Int} {t t' : TR} (ht : lkL j.tr x = some t) (h' : OneT j Y D x t') (hb : t'.batch = t.batch) (hs : t'.stamp = t.stamp) : GI { j with tr := putL j.tr x t' } k Y D := by
  have hl : ∀ y u, lkL (putL j.tr x t') y = some u → (y = x ∧ u = t') ∨ (y ≠ x ∧ lkL j.tr y = some u) := by
    intro y u hu
    rw [lkL_put h.kt] at hu
    by_cases hy : y = x
    · rw [if_pos hy] at hu; exact .inl ⟨hy, by injection hu with hu; exact hu.symm⟩
    · rw [if_neg hy] at hu; exact .inr ⟨hy, hu⟩
  refine ⟨h.e, h.sh, h.s0, h.s1, h.l0, h.l1, putL_ok h.kt _ _, h.kd, h.kD, fun y u hu => ?_, h.dd, h.dp, fun y u z v hu hv e1 e2 e3 => ?_⟩
  · rcases hl y u hu with ⟨rfl, rfl⟩ | ⟨_, hu⟩
    · exact h'.to (Int.le_refl _) rfl fun _ _ h => h
    · exact (h.tx y u hu).to (Int.le_refl _) rfl fun _ _ h => h
  · rcases hl y u hu with ⟨rfl, rfl⟩ | ⟨_, hu'⟩ <;> rcases hl z v hv with ⟨rfl, rfl⟩ | ⟨_, hv'⟩
    · rfl
    · exact h.b1 _ _ _ _ ht hv' (by omega) e2 (by rw [← hb]; exact e3)
    · exact h.b1 _ _ _ _ hu' ht e1 (by omega) (by rw [← hb]; exact e3)
    · exact h.b1 _ _ _ _ hu' hv' e1 e2 e3
theorem GI.del {j : JG} {k : Nat} {Y : Int → Int → Prop} {D : List (Int × Int)} (h : GI j k Y D) (x : Int) : GI { j with tr := delL j.tr x } k Y D := by
  have hl : ∀ y u, lkL (delL j.tr x) y = some u → lkL j.tr y = some u := by
    intro y u hu
    rw [lkL_delI] at hu
    by_cases hy : y = x
    · rw [if_pos hy] at hu; cases hu
    · rwa [if_neg hy] at hu
  exact ⟨h.e, h.sh, h.s0, h.s1, h.l0, h.l1, delL_ok h.kt _, h.kd, h.kD, fun y u hu => (h.tx y u (hl y u hu)).to (Int.le_refl _) rfl fun _ _ h => h, h.dd, h.dp, fun y u z v hu hv => h.b1 y u z v (hl y u hu) (hl z v hv)⟩
theorem right_opsG {n : NA} (h : rightN n = true) : n.ops.any badOp = false ∧ n.ops.length ≤ 16 := by
  unfold rightN boundN at h
  simp only [Bool.and_eq_true, Bool.not_eq_true', Bool.or_eq_false_iff, decide_eq_false_iff_not] at h
  exact ⟨h.2.1.2, by omega⟩
theorem lk_any {κ α : Type} [DecidableEq κ] {m : List (κ × α)} {f : κ × α → Bool} (h : ¬ m.any f = true) {x : κ} {a : α} (hx : lkL m x = some a) : f (x, a) = false := by
  have hm : (x, a) ∈ m := by
    unfold lkL at hx
    cases hf : m.find? fun p => decide (p.1 = x) with
    | none => rw [hf] at hx; cases hx
    | some w =>
      rw [hf] at hx
      injection hx with hx
      have h1 := List.find?_some hf
      have h2 := List.mem_of_find?_eq_some hf
      have h3 : w.1 = x := by simpa using h1
      rw [← h3, ← hx]; exact h2
  rw [List.any_eq_true] at h
  cases e : f (x, a) with
  | false => rfl
  | true => exact absurd ⟨_, hm, e⟩ h
def MO (n : NA) (D : List (Int × Int)) (ms : List (Int × NA)) : Prop := ∀ m ∈ ms, m.2.kind = 5 → n.kind = 7 ∨ lkL D m.2.txn = none
theorem MO.nil {n : NA} {D : List (Int × Int)} : MO n D [] := fun _ h => by cases h
theorem toldM_mem {t : TR} {s c : Int} {m : Int × NA} (h : m ∈ toldM t s c) (hk : m.2.kind = 5) : m.2.txn = t.txn ∧ m.2.stamp = s ∧ m.2.code = c := by
  unfold toldM at h
  rcases List.mem_append.1 h with h | h
  · obtain ⟨q, _, rfl⟩ := List.mem_map.1 h
    exact ⟨rfl, rfl, rfl⟩
  · rw [List.mem_singleton] at h; subst h; cases hk
structure NZ (r : NA) : Prop where
  t0 : 0 ≤ r.txn
  t1 : r.txn < 18446744073709551616
  s : 0 ≤ r.stamp
  m : 0 ≤ r.mark
  a : 0 ≤ r.after
inductive OnceC (j : JG) (k : Nat) (Y : Int → Int → Prop) (D : List (Int × Int)) (n : NA) (pl : PG) : Prop
  | a (h1 : pl.rec_ = []) (h2 : pl.notes = []) (h3 : MO n D pl.mail) (h4 : GI j (k + 1) Y D)
  | b (r : NA) (hz : NZ r) (h1 : pl.rec_ = []) (h2 : pl.notes = [r]) (h3 : MO n D pl.mail) (hr : r.kind = 19 ∨ r.kind = 20 ∨ r.kind = 21 ∨ r.kind = 22) (h4 : appGE j r = 0) (h5 : r.kind = 22 → lkL D r.txn = none) (h6 : GI (appG j r) (k + 1) Y D) (h7 : (appG j r).done = j.done) (h8 : (appG j r).last = j.last)
  | c (r : NA) (hz : NZ r) (h1 : pl.rec_ = [r]) (h2 : pl.notes = []) (h3 : pl.mail = []) (hr : r.kind = 18) (h4 : appGE j r = 0) (h6 : GI (appG j r) (k + 1) Y D) (h7 : (appG j r).done = j.done) (h8 : (appG j r).last = j.last)
  | d (r : NA) (hz : NZ r) (h1 : pl.rec_ = [r]) (h2 : pl.notes = []) (hr : r.kind = 17) (h3 : ∀ m ∈ pl.mail, m.2.kind = 5 → m.2.txn = r.txn ∧ m.2.stamp = r.stamp ∧ m.2.code = 0) (h4 : appGE j r = 0) (h5 : lkL D r.txn = none) (h6 : r.stamp = j.last + 1) (h7 : lkL j.done r.batch = none)
      (h8 : ∀ q ∈ r.parts, Y r.txn q) (h9 : GI (appG j r) (k + 1) Y (putL D r.txn r.stamp)) (ha : (appG j r).done = putL j.done r.batch r.stamp) (hb : (appG j r).last = r.stamp)
theorem once_none {j : JG} {k : Nat} {Y : Int → Int → Prop} {D : List (Int × Int)} {n : NA} (h : GI j (k + 1) Y D) : OnceC j k Y D n PG.none := .a rfl rfl MO.nil h
theorem once_ask {j : JG} {k : Nat} {Y Y' : Int → Int → Prop} {D : List (Int × Int)} {n : NA} (hI : GI j k Y D) (hk : k ≤ 60) (hY : ∀ x q, Y x q → Y' x q) (hr : rightN n = true) {fr : Int} (hf : 0 ≤ fr ∧ fr < 16) : OnceC j k Y' D n (askG j fr n) := by
  have hI1 := hI.le (Nat.le_succ k) hY
  unfold askG
  cases hz : lkL j.done n.batch with
  | some s => exact .a rfl rfl (fun m hm hk => by rw [List.mem_singleton.1 hm] at hk; cases hk) hI1
  | none =>
    dsimp only
    by_cases ha : j.tr.any (fun u => decide (u.2.batch = n.batch)) = true
    · rw [if_pos ha]; exact once_none hI1
    rw [if_neg ha]
    by_cases he : askE j n ≠ 0
    · rw [if_pos he]
      exact .a rfl rfl (fun m hm hk => by rw [List.mem_singleton.1 hm] at hk; cases hk) hI1
    rw [if_neg he]
    have hs0 := hI.s0
    have hs1 := hI.s1
    have hl0 := hI.l0
    have hl1 := hI.l1
    have hp := partsG_ok (s := j.shards) (by rw [hI.sh]; decide) n.ops
    rw [hI.sh] at hp
    have hp3 : (partsG j.shards n.ops).length ≤ 4 := by
      have := rise_len hp.1 hp.2 (by decide)
      rw [hI.sh]; omega
    have hright : rightN (beginN (newT j fr n)) = true := by
      refine right_beg (by show j.last ≤ _; omega) hf ?_ hp3 (right_opsG hr).1 (right_opsG hr).2
      show partsV (partsG j.shards n.ops) = true
      rw [hI.sh]
      exact partsV_rise hp.1 fun x hx => by have := hp.2 x hx; omega
    have htx : (beginN (newT j fr n)).txn = j.seq + 1 := by
      show j.epoch * 1048576 + j.seq + 1 = j.seq + 1
      rw [hI.e]; omega
    have hnone : lkL j.tr (j.seq + 1) = none := by
      cases hh : lkL j.tr (j.seq + 1) with
      | none => rfl
      | some t => have := (hI.tx _ t hh).x2; omega
    have hDn : lkL D (j.seq + 1) = none := by
      cases hh : lkL D (j.seq + 1) with
      | none => rfl
      | some t => have := (hI.dd _ t hh).1; omega
    have hE : appGE j (beginN (newT j fr n)) = 0 := by
      rw [appGE19 hright rfl, htx, hnone]; rfl
    have hS : appG j (beginN (newT j fr n)) = { j with tr := putL j.tr (j.seq + 1) (begT (beginN (newT j fr n))), seq := j.seq + 1 } := by
      rw [appG19 hE rfl, htx, hI.e, if_pos (by omega), show max j.seq ((j.seq + 1) % 1048576) = j.seq + 1 by omega]
    refine .b (beginN (newT j fr n)) ⟨by rw [htx]; omega, by rw [htx]; omega, Int.le_refl _, Int.le_refl _, hl0⟩ rfl rfl (fun m hm hk => ?_) (.inl rfl) hE (fun h => by cases h) ?_ (by rw [hS]) (by rw [hS])
    · obtain ⟨q, _, rfl⟩ := List.mem_map.1 hm
      cases hk
    · rw [hS]
      have hl : ∀ y u, lkL (putL j.tr (j.seq + 1) (begT (beginN (newT j fr n)))) y = some u → (y = j.seq + 1 ∧ u = begT (beginN (newT j fr n))) ∨ (y ≠ j.seq + 1 ∧ lkL j.tr y = some u) := by
        intro y u hu
        rw [lkL_put hI.kt] at hu
        by_cases hy : y = j.seq + 1
        · rw [if_pos hy] at hu; exact .inl ⟨hy, by injection hu with hu; exact hu.symm⟩
        · rw [if_neg hy] at hu; exact .inr ⟨hy, hu⟩
      have hbt : ∀ y u, lkL j.tr y = some u → u.batch ≠ n.batch := fun y u hu => by
        have := lk_any ha hu
        simpa using this
      refine ⟨hI.e, hI.sh, by dsimp only; omega, by dsimp only; omega, hI.l0, by dsimp only; omega, putL_ok hI.kt _ _, hI.kd, hI.kD, fun y u hu => ?_, fun t s h => by have := hI.dd t s h; exact ⟨by dsimp only; omega, this.2⟩, hI.dp, fun y u z v hu hv e1 e2 e3 => ?_⟩
      · rcases hl y u hu with ⟨rfl, rfl⟩ | ⟨_, hu⟩
        · refine ⟨htx, by omega, Int.le_refl _, ?_, ?_, List.nodup_nil, fun _ h => (by cases h), Int.le_refl _, fun _ => hDn, fun _ => hz⟩
          · show Rise (partsG j.shards n.ops)
            rw [hI.sh]; exact hp.1
          · show ∀ q ∈ partsG j.shards n.ops, 1 ≤ q ∧ q ≤ 3
            rw [hI.sh]; exact hp.2
        · exact (hI.tx y u hu).to (by dsimp only; omega) rfl hY
      · rcases hl y u hu with ⟨rfl, rfl⟩ | ⟨_, hu⟩ <;> rcases hl z v hv with ⟨rfl, rfl⟩ | ⟨_, hv⟩
        · rfl
        · exact absurd e3.symm (hbt _ _ hv)
        · exact absurd e3 (hbt _ _ hu)
        · exact hI.b1 _ _ _ _ hu hv e1 e2 e3
theorem once_vote {j : JG} {k : Nat} {Y Y' : Int → Int → Prop} {D : List (Int × Int)} {n : NA} (hI : GI j k Y D) (hk : k ≤ 60) (hY : ∀ x q, Y x q → Y' x q) (hn : 0 ≤ n.txn) (hn2 : n.txn < 18446744073709551616) {fr : Int} (hf : 0 ≤ fr ∧ fr < 16) (hy : n.code = 0 → Y' n.txn fr) : OnceC j k Y' D n (voteG j fr n) := by
  have hI1 := hI.le (Nat.le_succ k) hY
  unfold voteG
  cases hz : lkL j.tr n.txn with
  | none => exact once_none hI1
  | some t =>
    dsimp only
    have ht := hI1.tx _ _ hz
    by_cases h1 : 0 < t.stamp ∨ fr ∉ t.parts
    · rw [if_pos h1]; exact once_none hI1
    rw [if_neg h1]
    have hst : t.stamp = 0 := by
      have := ht.st
      have : ¬ 0 < t.stamp := fun h => h1 (.inl h)
      omega
    have hfp : fr ∈ t.parts := Classical.not_not.1 fun h => h1 (.inr h)
    have hDn := ht.d hst
    by_cases h2 : n.code ≠ 0
    · rw [if_pos h2]
      have hE : appGE j (goneN t.txn) = 0 := by
        rw [appGEe (right_txn 22 (.inr rfl) (by rw [ht.xx]; exact hn)) (.inr rfl)]
        show (match lkL j.tr t.txn with | none => 6 | some t => if decide (0 < t.stamp) ≠ false then 10 else 0) = (0 : Int)
        rw [ht.xx, hz]
        dsimp only
        rw [hst]; rfl
      have hS : appG j (goneN t.txn) = { j with tr := delL j.tr n.txn } := by
        rw [appGe hE (.inr rfl)]
        show ({ j with tr := delL j.tr t.txn } : JG) = _
        rw [ht.xx]
      refine .b (goneN t.txn) ⟨by show 0 ≤ t.txn; rw [ht.xx]; exact hn, by show t.txn < _; rw [ht.xx]; exact hn2, Int.le_refl _, Int.le_refl _, Int.le_refl _⟩ rfl rfl (fun m hm hk => .inr ?_) (.inr (.inr (.inr rfl))) hE (fun _ => by rw [ht.xx]; exact hDn) (by rw [hS]; exact hI1.del _) (by rw [hS]) (by rw [hS])
      rw [(toldM_mem hm hk).1, ht.xx]; exact hDn
    rw [if_neg h2]
    have hYf := hy (Classical.not_not.1 h2)
    by_cases h3 : fr ∈ t.yes
    · rw [if_pos h3]; exact once_none hI1
    rw [if_neg h3]
    by_cases h4 : t.yes.length + 1 ≠ t.parts.length
    · rw [if_pos h4]
      have hE : appGE j { NA.zero with kind := 20, txn := n.txn, who := fr } = 0 := by
        rw [appGEw (right_who 20 (.inl rfl) hn hf) (.inl rfl)]
        show (match lkL j.tr n.txn with | none => 6 | some t => if decide (0 < t.stamp) ≠ false then 10 else if fr ∉ t.parts ∨ fr ∈ t.yes then 1 else 0) = (0 : Int)
        rw [hz]
        dsimp only
        rw [hst, if_neg (fun h => h rfl), if_neg (fun h => h.elim (fun h => h hfp) h3)]
      have hS : appG j { NA.zero with kind := 20, txn := n.txn, who := fr } = { j with tr := putL j.tr n.txn { t with yes := putI t.yes fr } } := appGw hE (.inl rfl) hz
      refine .b { NA.zero with kind := 20, txn := n.txn, who := fr } ⟨hn, hn2, Int.le_refl _, Int.le_refl _, Int.le_refl _⟩ rfl rfl MO.nil (.inr (.inl rfl)) hE (fun h => by cases h) ?_ (by rw [hS]) (by rw [hS])
      rw [hS]
      refine hI1.put hz ⟨ht.xx, ht.x1, ht.x2, ht.r, ht.pb, ?_, fun q hq => ?_, ht.st, ht.d, ht.b⟩ rfl rfl
      · have hpm : (putI t.yes fr).Perm (fr :: t.yes) := by
          unfold putI
          refine List.perm_middle.trans (List.Perm.cons _ ?_)
          rw [List.takeWhile_append_dropWhile]
        exact hpm.nodup_iff.2 (List.nodup_cons.2 ⟨h3, ht.yn⟩)
      · rcases putI_mem.1 hq with rfl | hq
        · exact ⟨hfp, hYf⟩
        · exact ht.ys q hq
    rw [if_neg h4]
    have hlen : t.yes.length + 1 = t.parts.length := Classical.not_not.1 h4
    have hl0 := hI.l0
    have hl1 := hI.l1
    have hp4 : t.parts.length ≤ 4 := by have := rise_len ht.r ht.pb (by decide); omega
    have hE : appGE j { NA.zero with kind := 17, txn := t.txn, batch := t.batch, stamp := j.last + 1, parts := t.parts } = 0 := by
      rw [appGE17 (right_com (by omega) (partsV_rise ht.r fun x hx => by have := ht.pb x hx; omega) hp4) rfl]
      unfold comE
      show (if j.last + 1 = 0 then 1 else match lkL j.tr t.txn with | some t => if 0 < t.stamp then 10 else 0 | none => 0) = (0 : Int)
      rw [if_neg (by omega), ht.xx, hz]
      dsimp only
      rw [hst]; rfl
    have hS : appG j { NA.zero with kind := 17, txn := t.txn, batch := t.batch, stamp := j.last + 1, parts := t.parts } = { j with tr := putL j.tr n.txn { t with stamp := j.last + 1 }, done := putL j.done t.batch (j.last + 1), last := j.last + 1 } := by
      have e : lkL j.tr t.txn = some t := by rw [ht.xx]; exact hz
      rw [appG17 hE rfl]
      dsimp only
      rw [e]
      dsimp only [Option.getD_some]
      rw [show max j.last (j.last + 1) = j.last + 1 by omega]
      exact congrArg (fun z => ({ j with tr := putL j.tr z { t with stamp := j.last + 1 }, done := putL j.done t.batch (j.last + 1), last := j.last + 1 } : JG)) ht.xx
    refine .d { NA.zero with kind := 17, txn := t.txn, batch := t.batch, stamp := j.last + 1, parts := t.parts } ⟨by show 0 ≤ t.txn; rw [ht.xx]; exact hn, by show t.txn < _; rw [ht.xx]; exact hn2, by show 0 ≤ j.last + 1; omega, Int.le_refl _, Int.le_refl _⟩ rfl rfl rfl (fun m hm hk => toldM_mem hm hk) hE (by rw [ht.xx]; exact hDn) rfl (ht.b hst) (fun q hq => ?_) ?_ (by rw [hS]) (by rw [hS])
    · show Y' t.txn q
      rw [ht.xx]
      rcases nodup_all ht.yn (fun x hx => (ht.ys x hx).1) hfp h3 hlen q hq with rfl | h
      · exact hYf
      · exact (ht.ys q h).2
    · rw [hS]
      show GI _ (k + 1) Y' (putL D t.txn (j.last + 1))
      rw [show putL D t.txn (j.last + 1) = putL D n.txn (j.last + 1) by rw [ht.xx]]
      have hl : ∀ y u, lkL (putL j.tr n.txn { t with stamp := j.last + 1 }) y = some u → (y = n.txn ∧ u = { t with stamp := j.last + 1 }) ∨ (y ≠ n.txn ∧ lkL j.tr y = some u) := by
        intro y u hu
        rw [lkL_put hI.kt] at hu
        by_cases hy : y = n.txn
        · rw [if_pos hy] at hu; exact .inl ⟨hy, by injection hu with hu; exact hu.symm⟩
        · rw [if_neg hy] at hu; exact .inr ⟨hy, hu⟩
      refine ⟨hI.e, hI.sh, hI.s0, hI1.s1, by dsimp only; omega, by dsimp only; omega, putL_ok hI.kt _ _, putL_ok hI.kd _ _, putL_ok hI.kD _ _, fun y u hu => ?_, fun y s hs => ?_, fun y s hs => ?_, fun y u z v hu hv e1 e2 e3 => ?_⟩
      · rcases hl y u hu with ⟨rfl, rfl⟩ | ⟨hne, hu'⟩
        · exact ⟨ht.xx, ht.x1, ht.x2, ht.r, ht.pb, ht.yn, ht.ys, by dsimp only; omega, fun h => by dsimp only at h; omega, fun h => by dsimp only at h; omega⟩
        · have hu1 := hI1.tx y u hu'
          refine ⟨hu1.xx, hu1.x1, hu1.x2, hu1.r, hu1.pb, hu1.yn, hu1.ys, hu1.st, fun h => ?_, fun h => ?_⟩
          · rw [lkL_put hI.kD, if_neg hne]; exact hu1.d h
          · rw [lkL_put hI.kd, if_neg (fun e => hne (hI1.b1 _ _ _ _ hu' hz h hst e))]; exact hu1.b h
      · rw [lkL_put hI.kD] at hs
        by_cases hy : y = n.txn
        · rw [if_pos hy] at hs
          injection hs with hs
          have := ht.x2
          exact ⟨by dsimp only; omega, by omega⟩
        · rw [if_neg hy] at hs; exact hI.dd y s hs
      · rw [lkL_put hI.kd] at hs
        by_cases hy : y = t.batch
        · rw [if_pos hy] at hs
          injection hs with hs
          omega
        · rw [if_neg hy] at hs; exact hI.dp y s hs
      · rcases hl y u hu with ⟨rfl, rfl⟩ | ⟨_, hu'⟩ <;> rcases hl z v hv with ⟨rfl, rfl⟩ | ⟨_, hv'⟩
        · rfl
        · dsimp only at e1; omega
        · dsimp only at e2; omega
        · exact hI.b1 _ _ _ _ hu' hv' e1 e2 e3
theorem once_ack {j : JG} {k : Nat} {Y : Int → Int → Prop} {D : List (Int × Int)} {n : NA} (hI1 : GI j (k + 1) Y D) (hn : 0 ≤ n.txn) (hn2 : n.txn < 18446744073709551616) {fr : Int} (hf : 0 ≤ fr ∧ fr < 16) : OnceC j k Y D n (ackG j fr n) := by
  unfold ackG
  cases hz : lkL j.tr n.txn with
  | none => exact once_none hI1
  | some t =>
    dsimp only
    have ht := hI1.tx _ _ hz
    by_cases h1 : t.stamp = 0 ∨ fr ∉ t.parts ∨ fr ∈ t.acked
    · rw [if_pos h1]; exact once_none hI1
    rw [if_neg h1]
    have hst : 0 < t.stamp := by
      have := ht.st
      have : ¬ t.stamp = 0 := fun h => h1 (.inl h)
      omega
    have hfp : fr ∈ t.parts := Classical.not_not.1 fun h => h1 (.inr (.inl h))
    have hfa : fr ∉ t.acked := fun h => h1 (.inr (.inr h))
    by_cases h4 : t.acked.length + 1 ≠ t.parts.length
    · rw [if_pos h4]
      have hE : appGE j { NA.zero with kind := 21, txn := n.txn, who := fr } = 0 := by
        rw [appGEw (right_who 21 (.inr rfl) hn hf) (.inr rfl)]
        show (match lkL j.tr n.txn with | none => 6 | some t => if decide (0 < t.stamp) ≠ true then 10 else if fr ∉ t.parts ∨ fr ∈ t.acked then 1 else 0) = (0 : Int)
        rw [hz]
        dsimp only
        rw [decide_eq_true hst, if_neg (fun h => h rfl), if_neg (fun h => h.elim (fun h => h hfp) hfa)]
      have hS : appG j { NA.zero with kind := 21, txn := n.txn, who := fr } = { j with tr := putL j.tr n.txn { t with acked := putI t.acked fr } } := appGw hE (.inr rfl) hz
      refine .b { NA.zero with kind := 21, txn := n.txn, who := fr } ⟨hn, hn2, Int.le_refl _, Int.le_refl _, Int.le_refl _⟩ rfl rfl MO.nil (.inr (.inr (.inl rfl))) hE (fun h => by cases h) ?_ (by rw [hS]) (by rw [hS])
      rw [hS]
      exact hI1.put hz ⟨ht.xx, ht.x1, ht.x2, ht.r, ht.pb, ht.yn, ht.ys, ht.st, ht.d, ht.b⟩ rfl rfl
    rw [if_neg h4]
    have hE : appGE j { NA.zero with kind := 18, txn := n.txn } = 0 := by
      rw [appGEe (right_txn 18 (.inl rfl) hn) (.inl rfl)]
      show (match lkL j.tr n.txn with | none => 6 | some t => if decide (0 < t.stamp) ≠ true then 10 else 0) = (0 : Int)
      rw [hz]
      dsimp only
      rw [decide_eq_true hst]; rfl
    have hS : appG j { NA.zero with kind := 18, txn := n.txn } = { j with tr := delL j.tr n.txn } := appGe hE (.inl rfl)
    exact .c { NA.zero with kind := 18, txn := n.txn } ⟨hn, hn2, Int.le_refl _, Int.le_refl _, Int.le_refl _⟩ rfl rfl rfl rfl hE (by rw [hS]; exact hI1.del _) (by rw [hS]) (by rw [hS])
theorem once_cases {j : JG} {k : Nat} {Y Y' : Int → Int → Prop} {D : List (Int × Int)} {n : NA} (hI : GI j k Y D) (hk : k ≤ 60) (hY : ∀ x q, Y x q → Y' x q) (hn : 0 ≤ n.txn) (hn2 : n.txn < 18446744073709551616) (fr : Int) (hy : n.kind = 4 → n.code = 0 → Y' n.txn fr) : OnceC j k Y' D n (planG j fr n) := by
  have hI1 := hI.le (Nat.le_succ k) hY
  unfold planG
  by_cases h1 : rightN n = false ∨ fr < 0 ∨ 16 ≤ fr
  · rw [if_pos h1]; exact once_none hI1
  rw [if_neg h1]
  have hr : rightN n = true := by cases e : rightN n with
    | true => rfl
    | false => exact absurd (.inl e) h1
  have hf : 0 ≤ fr ∧ fr < 16 := ⟨Int.not_lt.1 fun h => h1 (.inr (.inl h)), Int.not_le.1 fun h => h1 (.inr (.inr h))⟩
  by_cases h2 : n.kind = 1
  · rw [if_pos h2]; exact once_ask hI hk hY hr hf
  rw [if_neg h2]
  by_cases h3 : n.kind = 4
  · rw [if_pos h3]; exact once_vote hI hk hY hn hn2 hf (hy h3)
  rw [if_neg h3]
  by_cases h4 : n.kind = 6
  · rw [if_pos h4]; exact once_ack hI1 hn hn2 hf
  rw [if_neg h4]
  by_cases h5 : n.kind = 7
  · rw [if_pos h5]
    unfold probeG
    cases hz : lkL j.tr n.txn with
    | none => exact .a rfl rfl (fun _ _ _ => .inl h5) hI1
    | some t =>
      dsimp only
      split
      · exact once_none hI1
      · exact .a rfl rfl (fun _ _ _ => .inl h5) hI1
  rw [if_neg h5]; exact once_none hI1
end Go.Proofs.YtiampehfpgcogaaDoor
