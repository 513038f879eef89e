/- Readings opened: from what the arguments read as to cells that stay; rows. The readings of the vault's ops. The readings of the vault's steps. The readings of the juror's notes; the table of the kinds. The table of the kinds: from what the row lists to its cells. No condition. -/
import Derived.ReadAgain
import Derived.ChangeArms
import Derived.WideShapes
import Derived.KernelRfl
import Derived.Test.YtjidejcehmamkaaGreatDoorRows
import Derived.WalkKit
import Derived.ProofKit
import Derived.OpenShut
import Derived.DataShut
import Derived.Test.YtjidejcehmamkaaGreatDoorCards
import Derived.Test.YtjidejcehmamkaaGreatDoorTie
import Derived.Deep.DeepHandedRow
import Derived.Lib.LaidTab
import Derived.Test.YtjidejcehmamkaaGreatDoorPk11
set_option linter.unusedVariables false
set_option linter.unusedSimpArgs false
set_option linter.unusedSectionVars false
namespace Go.SX
open Go Go.ChangeShapes Go.WideShapes Go.RowKit
section
variable {H : Type} {enc : TypeId × Value → H} {P : Program} {W : World}
def Rd (enc : TypeId × Value → H) (P : Program) (W : World) (t : TypeId) (cs : List Value) : Prop := ∃ n x, DataW.trod enc P W 0 (fun _ => true) true n t cs = some x
theorem cells_of {w : World} {base : Nat} {a : Addr} {n : Nat} {cs : List Value} (h : w.cells? base a n = some cs) : cs.length = n ∧ ∀ j, j < n → w.cell? (a.add j) = cs[j]? := by
  unfold World.cells? at h
  split at h
  · exact ⟨by simpa using mapM_some_length h, fun j hj => by simpa using mapM_some_get h j j (by simp [hj])⟩
  · cases h
theorem cell_block {w : World} {a : Addr} {v : Value} (h : w.cell? a = some v) : ∃ l t fz, w.heap[a.block]? = some (.cells l t fz) ∧ l[a.off]? = some v ∧ a.spot = none := by
  unfold World.cell? at h
  split at h
  · rename_i c t fz hb
    split at h
    · cases h
    · rename_i hs
      refine ⟨c, t, fz, hb, h, by simpa using hs⟩
  · cases h
theorem add_at (x y n : Nat) : (⟨x, y, none⟩ : Addr).add n = ⟨x, y + n, none⟩ := by unfold Addr.add; split <;> simp_all
theorem flat_at {sz : Nat} : ∀ {rows : List (List Value)} {j : Nat} {v : Value}, (∀ r ∈ rows, r.length = sz) → rows.flatten[j]? = some v → ∃ k r i, rows[k]? = some r ∧ r[i]? = some v ∧ j = k * sz + i
  | [], j, v, _, h => by simp at h
  | r :: rows, j, v, hr, h => by
    have h0 := hr r (by simp)
    rw [List.flatten_cons] at h
    by_cases hj : j < r.length
    · rw [List.getElem?_append_left hj] at h
      exact ⟨0, r, j, rfl, h, by simp⟩
    · rw [List.getElem?_append_right (by omega)] at h
      obtain ⟨k, r', i, h1, h2, h3⟩ := flat_at (fun x hx => hr x (by simp [hx])) h
      exact ⟨k + 1, r', i, by simpa using h1, h2, by rw [Nat.succ_mul]; omega⟩
theorem Rd.slice {t e : TypeId} {sz : Nat} {cs : List Value} (h : Rd enc P W t cs) (ht : P.underlying t = some (.slice e)) (hs : P.cellsOf e = sz) (h0 : 0 < sz) :
    ∃ (a : Option Addr) (c : Nat) (rows : List (List Value)), cs = [.slice a rows.length c] ∧ rows.length ≤ c ∧ c ≤ maxLen ∧ SlM (all0 W) a rows.length sz rows.flatten ∧ ∀ r ∈ rows, r.length = sz ∧ Rd enc P W e r := by
  obtain ⟨n, x, h⟩ := h
  rcases DataW.trod_slice ht h with ⟨rfl, _⟩ | ⟨a, len, cap, elems, rest, n, rfl, rfl, _, _, hlc, hcm, hel, hat, _⟩
  · exact ⟨none, 0, [], rfl, Nat.le_refl _, Nat.zero_le _, SlM.nil, by simp⟩
  · simp only [hs] at hat
    have hrow : ∀ i, i < len → ∃ r y, W.cells? 0 (a.add (i * sz)) sz = some r ∧ DataW.trod enc P W 0 (fun _ => true) true n e r = some y := fun i hi => by
      have := hat i hi
      have hi' : i < elems.length := by omega
      rw [List.getElem?_eq_getElem hi'] at this
      obtain ⟨r, h1, h2⟩ := Option.bind_eq_some_iff.1 this
      exact ⟨r, _, h1, h2⟩
    let rows := (List.range len).map fun i => (W.cells? 0 (a.add (i * sz)) sz).getD []
    have hrl : rows.length = len := by simp [rows]
    have hri : ∀ i r, rows[i]? = some r → i < len ∧ W.cells? 0 (a.add (i * sz)) sz = some r := fun i r hr => by
      have hi : i < len := by have := (List.getElem?_eq_some_iff.1 hr).1; omega
      obtain ⟨r', y, h1, _⟩ := hrow i hi
      refine ⟨hi, ?_⟩
      simp only [rows, List.getElem?_map, List.getElem?_range hi, Option.map_some, Option.some.injEq, h1, Option.getD_some] at hr
      rw [← hr]; exact h1
    have hmem : ∀ r ∈ rows, r.length = sz ∧ Rd enc P W e r := fun r hr => by
      obtain ⟨i, hi, rfl⟩ := List.getElem_of_mem hr
      obtain ⟨h1, h2⟩ := hri i _ (List.getElem?_eq_getElem hi)
      obtain ⟨r', y, h3, h4⟩ := hrow i h1
      rw [h2] at h3; cases h3
      exact ⟨(cells_of h2).1, n, y, h4⟩
    refine ⟨some a, cap, rows, by rw [hrl], by omega, hcm, ⟨?_, ?_⟩, hmem⟩
    · have : ∀ l : List (List Value), (∀ r ∈ l, r.length = sz) → l.flatten.length = l.length * sz := by
        intro l
        induction l with
        | nil => simp
        | cons r l ih => intro h; rw [List.flatten_cons, List.length_append, h r (by simp), ih (fun x hx => h x (by simp [hx])), List.length_cons, Nat.succ_mul]; omega
      exact this rows fun r hr => (hmem r hr).1
    · by_cases hl0 : len = 0
      · exact .inl (by omega)
      · refine .inr ?_
        obtain ⟨r0, y0, h1, _⟩ := hrow 0 (by omega)
        have h2 := (cells_of h1).2 0 h0
        have hr0 : 0 < r0.length := by rw [(cells_of h1).1]; exact h0
        rw [List.getElem?_eq_getElem hr0] at h2
        obtain ⟨l, tt, fz, hb, hc, hsp⟩ := cell_block h2
        have ea : (a.add (0 * sz)).add 0 = a := by simp [Addr.add]
        rw [ea] at hb hc hsp
        have eA : a = ⟨a.block, a.off, none⟩ := by cases a; simp_all
        refine ⟨a.block, a.off, l, tt, fz, by rw [← eA], hb, fun j v hv => ?_⟩
        obtain ⟨k, r, i, h3, h4, rfl⟩ := flat_at (fun r hr => (hmem r hr).1) hv
        obtain ⟨h5, h6⟩ := hri k r h3
        have hi : i < sz := by rw [← (cells_of h6).1]; exact (List.getElem?_eq_some_iff.1 h4).1
        have h7 := (cells_of h6).2 i hi
        rw [h4] at h7
        have e2 : (a.add (k * sz)).add i = ⟨a.block, a.off + (k * sz + i), none⟩ := by
          rw [eA, add_at, add_at, Nat.add_assoc]
        rw [e2] at h7
        simp only [World.cell?, hb] at h7
        simpa using h7
theorem Rd.list {t e : TypeId} {sz : Nat} {cs : List Value} {α : Type} {g : α → List Value} {Q : α → Prop} (he : ∀ r, Rd enc P W e r → ∃ x, r = g x ∧ Q x) (h : Rd enc P W t cs) (ht : P.underlying t = some (.slice e)) (hs : P.cellsOf e = sz) (h0 : 0 < sz) :
    ∃ (a : Option Addr) (c : Nat) (xs : List α), cs = [.slice a xs.length c] ∧ xs.length ≤ c ∧ c ≤ maxLen ∧ SlM (all0 W) a xs.length sz (xs.flatMap g) ∧ ∀ x ∈ xs, Q x := by
  obtain ⟨a, c, rows, h1, h2, h3, h4, h5⟩ := h.slice ht hs h0
  have key : ∀ rows : List (List Value), (∀ r ∈ rows, r.length = sz ∧ Rd enc P W e r) → ∃ xs : List α, rows = xs.map g ∧ ∀ x ∈ xs, Q x := by
    intro rows
    induction rows with
    | nil => exact fun _ => ⟨[], rfl, by simp⟩
    | cons r rows ih =>
      intro h
      obtain ⟨xs, e1, e2⟩ := ih fun x hx => h x (by simp [hx])
      obtain ⟨x, e3, e4⟩ := he r (h r (by simp)).2
      refine ⟨x :: xs, by rw [List.map_cons, ← e1, ← e3], fun y hy => ?_⟩
      rcases List.mem_cons.1 hy with rfl | hy
      · exact e4
      · exact e2 y hy
  obtain ⟨xs, e1, e2⟩ := key rows h5
  have el : rows.length = xs.length := by rw [e1, List.length_map]
  rw [el] at h1 h2 h4
  refine ⟨a, c, xs, h1, h2, h3, ?_, e2⟩
  rw [List.flatMap_def, ← e1]; exact h4
theorem Rd.int {t : TypeId} {k : IntKind} {cs : List Value} (h : Rd enc P W t cs) (ht : P.underlying t = some (.int k)) : ∃ n, cs = [.int k n] ∧ (Lit.int k n).wf = true := by
  obtain ⟨n, x, h⟩ := h
  obtain ⟨v, h1, _, h2⟩ := DataW.trod_int ht h
  exact ⟨v, h1, h2⟩
theorem Rd.bool {t : TypeId} {cs : List Value} (h : Rd enc P W t cs) (ht : P.underlying t = some .bool) : ∃ b, cs = [.bool b] := by
  obtain ⟨n, x, h⟩ := h
  obtain ⟨v, h1, _⟩ := DataW.trod_bool ht h
  exact ⟨v, h1⟩
theorem Rd.fields {t : TypeId} {fs : Array Field} {cs : List Value} (h : Rd enc P W t cs) (ht : P.underlying t = some (.struct fs)) : cs.length = P.cellsOf t ∧ ∀ (i : Nat) (f : Field), fs[i]? = some f → Rd enc P W f.type ((cs.drop f.offset).take (P.cellsOf f.type)) := by
  obtain ⟨n, x, h⟩ := h
  obtain ⟨xs, m, _, _, h1, h2, h3⟩ := DataW.trod_struct ht h
  refine ⟨h1, fun i f hf => ?_⟩
  have := h3 i f hf
  have hi : i < xs.length := by rw [h2]; exact (Array.getElem?_eq_some_iff.1 hf).1
  rw [List.getElem?_eq_getElem hi] at this
  exact ⟨m, _, this⟩
theorem args_again (K : Kids P (· < P.types.size)) (hz : ∀ t e, t < P.types.size → P.underlying t = some (.slice e) → 0 < P.cellsOf e) {W' : World} {ts : List TypeId} {vs : List Value} {ds : List (DataW H)} {ps : List MemPlace} (hT : ∀ t ∈ ts, t < P.types.size)
    (h : DataW.TrodAll enc P W 0 (fun _ => true) true ts vs ds ps) (hk : Kept W W') (sp : Nat → Bool) (hs : ∀ p ∈ ps, sp p.block = true) : DataW.TrodAll enc P W' 0 sp true ts vs ds ps :=
  DataW.TrodAll.respare K hz hT (trodAll_kept hk h) hs
theorem trodAll_rd : ∀ {ts : List TypeId} {vs : List Value} {ds : List (DataW H)} {ps : List MemPlace}, DataW.TrodAll enc P W 0 (fun _ => true) true ts vs ds ps → vs.length = ts.length ∧ ds.length = ts.length ∧ ∀ (i : Nat) (t : TypeId) (v : Value), ts[i]? = some t → vs[i]? = some v → Rd enc P W t v.cells.toList
  | [], [], [], _, _ => ⟨rfl, rfl, fun i t v h => by simp at h⟩
  | t :: ts, v :: vs, d :: ds, ps, ⟨p, q, ⟨n, h1⟩, h2, _⟩ => by
    obtain ⟨e1, e2, e3⟩ := trodAll_rd h2
    refine ⟨by simp [e1], by simp [e2], fun i t' v' h h' => ?_⟩
    cases i with
    | zero => simp at h h'; subst h h'; exact ⟨n, _, h1⟩
    | succ i => exact e3 i t' v' (by simpa using h) (by simpa using h')
structure Arg (enc : TypeId × Value → H) (P : Program) (W : World) (t : TypeId) (v : Value) : Prop where
  rd : Rd enc P W t v.cells.toList
  ok : ∃ base, Value.okWide P W .any base t v
theorem Arg.int {t : TypeId} {k : IntKind} {v : Value} (h : Arg enc P W t v) (ht : P.underlying t = some (.int k)) : ∃ n, v = .int k n ∧ (Lit.int k n).wf = true := by
  obtain ⟨r, _, o⟩ := h
  obtain ⟨n, rfl⟩ := okWide_int ht o
  obtain ⟨m, h1, h2⟩ := r.int ht
  simp [Value.cells] at h1
  subst h1
  exact ⟨n, rfl, h2⟩
theorem Arg.bool {t : TypeId} {v : Value} (h : Arg enc P W t v) (ht : P.underlying t = some .bool) : ∃ b, v = .bool b := by
  obtain ⟨r, _, o⟩ := h
  exact okWide_bool ht o
theorem Arg.list {t e : TypeId} {sz : Nat} {v : Value} {α : Type} {g : α → List Value} {Q : α → Prop} (h : Arg enc P W t v) (he : ∀ r, Rd enc P W e r → ∃ x, r = g x ∧ Q x) (ht : P.underlying t = some (.slice e)) (hs : P.cellsOf e = sz) (h0 : 0 < sz) :
    ∃ (a : Option Addr) (c : Nat) (xs : List α), v = .slice a xs.length c ∧ xs.length ≤ c ∧ c ≤ 9223372036854775807 ∧ SlM (all0 W) a xs.length sz (xs.flatMap g) ∧ ∀ x ∈ xs, Q x := by
  obtain ⟨r, _, o⟩ := h
  obtain ⟨a, l, c, rfl⟩ := okWide_slice ht o
  obtain ⟨a', c', xs, h1, h2, h3, h4, h5⟩ := r.list he ht hs h0
  simp [Value.cells] at h1
  obtain ⟨rfl, rfl, rfl⟩ := h1
  exact ⟨_, _, xs, rfl, h2, h3, h4, h5⟩
theorem row_post {f : FuncId} {F : Func} {s : ChangeSpec} {tb : TypeId} {args : Array Value} {ds gs : List (DataW H)} {before : List MemPlace} {handsOn again : Bool} (K : Kids P (· < P.types.size)) (hz : ∀ t e, t < P.types.size → P.underlying t = some (.slice e) → 0 < P.cellsOf e)
    (hT : (F.params.toList.all fun t => decide (t < P.types.size)) = true) (hvs : s.vars = []) (hfn : ∀ ds : List (DataW H), ds.length = F.params.toList.length → s.fn H ds = { results := [.lit (.bool true)], args := ds }) (hrt : F.resultTypes = #[tb]) (htb : P.underlying tb = some .bool)
    {base : Nat} (hval : ∀ (j : Nat) t v, F.params[j]? = some t → args[j]? = some v → Value.okWide P W .any base t v)
    (hW : DataW.Whole enc P F.params.toList s.vars false W args.toList ds gs before)
    (hw : (∀ (i : Nat) (t : TypeId) (v : Value), F.params.toList[i]? = some t → args.toList[i]? = some v → Arg enc P W t v) → args.toList.length = F.params.toList.length → CallsS P f args.toList [roM (all0 W)] (fun v _ => v = .bool true)) :
    Calls P f args W fun e W' => ∃ v, e = .returned v ∧ s.post enc P F false true handsOn again W args v W' := by
  have hW' := hW
  obtain ⟨p, q, hA, hV, rfl, hfz, hnd⟩ := hW
  rw [hvs] at hV
  obtain ⟨rfl, rfl⟩ : gs = [] ∧ q = [] := by
    cases gs with
    | nil => exact ⟨rfl, hV⟩
    | cons g gs => exact hV.elim
  obtain ⟨h1, h2, h3⟩ := trodAll_rd hA
  have hc := (hw (fun i t v e1 e2 => ⟨h3 i t v e1 e2, base, hval i t v (by simpa using e1) (by simpa using e2)⟩) h1).kept
  refine hc.mono fun e W' ⟨he, hk⟩ => ?_
  subst he
  have hf := hfn ds h2
  refine ⟨_, rfl, post_kept (pa := p) (pv := []) hW' (fun b sp hd => ?_) (fun sp hsp => ?_) (fun sp _ => ?_) rfl hk ?_⟩
  · rw [hrt, List.append_nil, hf]
    exact trodAll_cons_mk (shut_bool htb _) trodAll_mk0
  · rw [List.append_nil, hf]
    exact args_again K hz (fun t ht => of_decide_eq_true (List.all_eq_true.1 hT t ht)) hA hk sp (fun x hx => hsp x (by simp [hx]))
  · rw [hvs, List.append_nil, hf]; rfl
  · exact ok_one hrt rfl (okWide_bool_mk htb _)
end
end Go.SX
namespace Go.Proofs.YtjidejcehmamkaaGreatDoor
open Go Go.SX Go.ChangeShapes Go.WideShapes Go.ChangeAt Go.RowKit
theorem own : ownKnob Tryz.prog.godebug = none := by kernel_rfl
theorem Rd.i32 {H : Type} {enc : TypeId × Value → H} {W : World} {cs : List Value} (h : Rd enc Tryz.prog W 21 cs) : ∃ z, cs = cI z ∧ True := by
  obtain ⟨z, hz, _⟩ := Rd.int h Tryz.underlying21
  exact ⟨z, hz, trivial⟩
theorem u64_wf {n : Int} (h : (Lit.int .u64 n).wf = true) : 0 ≤ n ∧ n ≤ 18446744073709551615 := by
  have := (Lit.wf_int_iff .u64 n).1 h
  have e1 : IntKind.u64.min = 0 := by decide
  have e2 : IntKind.u64.max = 18446744073709551615 := by decide
  rw [e1, e2] at this; exact this
theorem Rd.u64 {H : Type} {enc : TypeId × Value → H} {W : World} {cs : List Value} (h : Rd enc Tryz.prog W 30 cs) : ∃ z, cs = cU z ∧ (0 ≤ z ∧ z ≤ 18446744073709551615) := by
  obtain ⟨z, hz, hw⟩ := Rd.int h Tryz.underlying30
  exact ⟨z, hz, u64_wf hw⟩
theorem Rd.vec {H : Type} {enc : TypeId × Value → H} {W : World} {cs : List Value} (h : Rd enc Tryz.prog W 33 cs) : ∃ (a : Option Addr) (c : Nat) (xs : List Int), cs = [.slice a xs.length c] ∧ xs.length ≤ c ∧ xs.length ≤ 9223372036854775807 ∧ SlM (all0 W) a xs.length 1 (xs.map I32) := by
  obtain ⟨a, c, ls, h1, h1c, h1m, h1s, h1q⟩ := Rd.list (fun r hr => Rd.i32 hr) h (sz := 1) Tryz.underlying33 (by kernel_rfl) (by decide)
  have hmx : maxLen = 9223372036854775807 := by decide
  rw [hmx] at h1m
  have hmm : ls.length ≤ 9223372036854775807 := Nat.le_trans h1c h1m
  rw [flat_I] at h1s
  exact ⟨a, c, ls, h1, h1c, hmm, h1s⟩
set_option maxRecDepth 100000 in
theorem Rd.op {H : Type} {enc : TypeId × Value → H} {W : World} {cs : List Value} (h : Rd enc Tryz.prog W 46 cs) : ∃ o : OV, cs = o.cells ∧ (SlM (all0 W) o.a o.vec.length 1 (o.vec.map I32) ∧ o.vec.length ≤ o.c ∧ o.vec.length ≤ 9223372036854775807 ∧ 0 ≤ o.id ∧ o.id ≤ 18446744073709551615) := by
  obtain ⟨hl, hf⟩ := h.fields Tryz.underlying46
  obtain ⟨x, h0, hx⟩ := Rd.u64 (hf 0 _ rfl)
  obtain ⟨a, c, xs, h1, h2, h3, h4⟩ := Rd.vec (hf 1 _ rfl)
  have hl' : cs.length = 2 := hl.trans (by kernel_rfl)
  match cs, hl' with
  | [u, v], _ =>
    have h0' : [u] = [Value.int .u64 x] := h0
    have h1' : [v] = [Value.slice a xs.length c] := h1
    simp only [List.cons.injEq, and_true] at h0' h1'
    subst h0' h1'
    exact ⟨⟨x, a, c, xs⟩, rfl, h4, h2, h3, hx⟩
end Go.Proofs.YtjidejcehmamkaaGreatDoor
namespace Go.Proofs.YtjidejcehmamkaaGreatDoor
open Go Go.SX Go.ChangeShapes Go.WideShapes Go.ChangeAt Go.RowKit
def QOps (W : World) (a : Option Addr) (ops : List OV) : Prop := (SlM (all0 W) a ops.length 2 (ops.flatMap OV.cells) ∧ okR (all0 W) ops) ∧ (∀ u ∈ ops, u.vec.length ≤ u.c) ∧ ops.length ≤ 9223372036854775807
theorem Rd.u8 {H : Type} {enc : TypeId × Value → H} {W : World} {cs : List Value} (h : Rd enc Tryz.prog W 5 cs) : ∃ z, cs = [Value.int .u8 z] := by
  obtain ⟨z, hz, _⟩ := Rd.int h Tryz.underlying5
  exact ⟨z, hz⟩
theorem Rd.ops {H : Type} {enc : TypeId × Value → H} {W : World} {cs : List Value} (h : Rd enc Tryz.prog W 32 cs) : ∃ (a : Option Addr) (c : Nat) (ops : List OV), cs = [.slice a ops.length c] ∧ QOps W a ops := by
  obtain ⟨a, c, ls, h1, h1c, h1m, h1s, h1q⟩ := Rd.list (fun r hr => Rd.op hr) h (sz := 2) Tryz.underlying32 (by kernel_rfl) (by decide)
  have hmx : maxLen = 9223372036854775807 := by decide
  rw [hmx] at h1m
  exact ⟨a, c, ls, h1, ⟨h1s, fun u hu => (h1q u hu).1⟩, fun u hu => (h1q u hu).2.1, Nat.le_trans h1c h1m⟩
end Go.Proofs.YtjidejcehmamkaaGreatDoor
namespace Go.Proofs.YtjidejcehmamkaaGreatDoor
open Go Go.SX Go.ChangeShapes Go.WideShapes Go.ChangeAt Go.RowKit
theorem u8_wf {n : Int} (h : (Lit.int .u8 n).wf = true) : 0 ≤ n ∧ n ≤ 255 := bounds_u8 h
theorem Rd.u8b {H : Type} {enc : TypeId × Value → H} {W : World} {cs : List Value} (h : Rd enc Tryz.prog W 5 cs) : ∃ z, cs = [Value.int .u8 z] ∧ (0 ≤ z ∧ z ≤ 255) := by
  obtain ⟨z, hz, hw⟩ := Rd.int h Tryz.underlying5
  exact ⟨z, hz, u8_wf hw⟩
theorem Rd.i64 {H : Type} {enc : TypeId × Value → H} {W : World} {cs : List Value} (h : Rd enc Tryz.prog W 3 cs) : ∃ z, cs = [I64 z] ∧ True := by
  obtain ⟨z, hz, hw⟩ := Rd.int h Tryz.underlying3
  exact ⟨z, hz, trivial⟩
theorem Rd.i64b {H : Type} {enc : TypeId × Value → H} {W : World} {cs : List Value} (h : Rd enc Tryz.prog W 3 cs) : ∃ z, cs = [I64 z] ∧ (-9223372036854775808 ≤ z ∧ z ≤ 9223372036854775807) := by
  obtain ⟨z, hz, hw⟩ := Rd.int h Tryz.underlying3
  exact ⟨z, hz, bounds_i64 hw⟩
theorem Rd.errnob {H : Type} {enc : TypeId × Value → H} {W : World} {cs : List Value} (h : Rd enc Tryz.prog W 25 cs) : ∃ z, cs = [I64 z] ∧ (-9223372036854775808 ≤ z ∧ z ≤ 9223372036854775807) := by
  obtain ⟨z, hz, hw⟩ := Rd.int h Tryz.underlying25
  exact ⟨z, hz, bounds_i64 hw⟩
theorem Rd.pints {H : Type} {enc : TypeId × Value → H} {W : World} {cs : List Value} (h : Rd enc Tryz.prog W 31 cs) : ∃ (a : Option Addr) (c : Nat) (xs : List Int), cs = [.slice a xs.length c] ∧ xs.length ≤ c ∧ xs.length ≤ 9223372036854775807 ∧ SlM (all0 W) a xs.length 1 (xs.map I64) := by
  obtain ⟨a, c, ls, h1, h1c, h1m, h1s, h1q⟩ := Rd.list (fun r hr => Rd.i64 hr) h (sz := 1) Tryz.underlying31 (by kernel_rfl) (by decide)
  have hmx : maxLen = 9223372036854775807 := by decide
  rw [hmx] at h1m
  rw [flat_I64] at h1s
  exact ⟨a, c, ls, h1, h1c, Nat.le_trans h1c h1m, h1s⟩
set_option maxRecDepth 100000 in
theorem Rd.hit {H : Type} {enc : TypeId × Value → H} {W : World} {cs : List Value} (h : Rd enc Tryz.prog W 118 cs) : ∃ o : HV, cs = o.cells ∧ (SlM (all0 W) o.a o.vec.length 1 (o.vec.map I32) ∧ o.vec.length ≤ o.c) := by
  obtain ⟨hl, hf⟩ := h.fields Tryz.underlying118
  obtain ⟨x, h0, hx⟩ := Rd.u64 (hf 0 _ rfl)
  obtain ⟨y, h1, hy⟩ := Rd.u64 (hf 1 _ rfl)
  obtain ⟨a, c, xs, h2, h3, h4, h5⟩ := Rd.vec (hf 2 _ rfl)
  have hl' : cs.length = 3 := hl.trans (by kernel_rfl)
  match cs, hl' with
  | [u, v, w], _ =>
    have h0' : [u] = [Value.int .u64 x] := h0
    have h1' : [v] = [Value.int .u64 y] := h1
    have h2' : [w] = [Value.slice a xs.length c] := h2
    simp only [List.cons.injEq, and_true] at h0' h1' h2'
    subst h0' h1' h2'
    exact ⟨⟨x, y, a, c, xs⟩, rfl, h5, h3⟩
theorem Rd.hits {H : Type} {enc : TypeId × Value → H} {W : World} {cs : List Value} (h : Rd enc Tryz.prog W 34 cs) : ∃ (a : Option Addr) (c : Nat) (hs : List HV), cs = [.slice a hs.length c] ∧ SlM (all0 W) a hs.length 3 (hs.flatMap HV.cells) ∧ hs.length ≤ 9223372036854775807 ∧ ∀ x ∈ hs, SlM (all0 W) x.a x.vec.length 1 (x.vec.map I32) ∧ x.vec.length ≤ x.c := by
  obtain ⟨a, c, ls, h1, h1c, h1m, h1s, h1q⟩ := Rd.list (fun r hr => Rd.hit hr) h (sz := 3) Tryz.underlying34 (by kernel_rfl) (by decide)
  have hmx : maxLen = 9223372036854775807 := by decide
  rw [hmx] at h1m
  exact ⟨a, c, ls, h1, h1s, Nat.le_trans h1c h1m, h1q⟩
set_option maxHeartbeats 1000000 in
set_option maxRecDepth 100000 in
theorem Rd.note {H : Type} {enc : TypeId × Value → H} {W : World} {cs : List Value} (h : Rd enc Tryz.prog W 36 cs) : ∃ n : NV, cs = n.cells ∧ okN (all0 W) n ∧ CapN n ∧ NumN n ∧ NumA n.abs := by
  obtain ⟨hl, hf⟩ := h.fields Tryz.underlying36
  obtain ⟨x0, h0, k0⟩ := Rd.u8b (hf 0 _ rfl)
  obtain ⟨x1, h1, k1⟩ := Rd.u64 (hf 1 _ rfl)
  obtain ⟨x2, h2, k2⟩ := Rd.u64 (hf 2 _ rfl)
  obtain ⟨x3, h3, k3⟩ := Rd.u64 (hf 3 _ rfl)
  obtain ⟨x4, h4, k4⟩ := Rd.u64 (hf 4 _ rfl)
  obtain ⟨x5, h5, k5⟩ := Rd.u64 (hf 5 _ rfl)
  obtain ⟨x6, h6, k6⟩ := Rd.u64 (hf 6 _ rfl)
  obtain ⟨x7, h7, k7⟩ := Rd.u64 (hf 7 _ rfl)
  obtain ⟨x8, h8, k8⟩ := Rd.i64b (hf 8 _ rfl)
  obtain ⟨x9, h9, k9⟩ := Rd.i64b (hf 9 _ rfl)
  obtain ⟨x10, h10, k10⟩ := Rd.errnob (hf 10 _ rfl)
  obtain ⟨x11, h11, k11⟩ := Rd.i64b (hf 11 _ rfl)
  obtain ⟨pa, pc, ps, h12, p1, p2, p3⟩ := Rd.pints (hf 12 _ rfl)
  obtain ⟨oa, oc, os, h13, o1⟩ := Rd.ops (hf 13 _ rfl)
  obtain ⟨va, vc, vs, h14, v1, v2, v3⟩ := Rd.vec (hf 14 _ rfl)
  obtain ⟨ha, hc, hs, h15, q1, q2, q3⟩ := Rd.hits (hf 15 _ rfl)
  have hl' : cs.length = 16 := hl.trans (by kernel_rfl)
  match cs, hl' with
  | [u0, u1, u2, u3, u4, u5, u6, u7, u8, u9, u10, u11, u12, u13, u14, u15], _ =>
    have h0' : [u0] = [Value.int .u8 x0] := h0
    have h1' : [u1] = [Value.int .u64 x1] := h1
    have h2' : [u2] = [Value.int .u64 x2] := h2
    have h3' : [u3] = [Value.int .u64 x3] := h3
    have h4' : [u4] = [Value.int .u64 x4] := h4
    have h5' : [u5] = [Value.int .u64 x5] := h5
    have h6' : [u6] = [Value.int .u64 x6] := h6
    have h7' : [u7] = [Value.int .u64 x7] := h7
    have h8' : [u8] = [Value.int .i64 x8] := h8
    have h9' : [u9] = [Value.int .i64 x9] := h9
    have h10' : [u10] = [Value.int .i64 x10] := h10
    have h11' : [u11] = [Value.int .i64 x11] := h11
    have h12' : [u12] = [Value.slice pa ps.length pc] := h12
    have h13' : [u13] = [Value.slice oa os.length oc] := h13
    have h14' : [u14] = [Value.slice va vs.length vc] := h14
    have h15' : [u15] = [Value.slice ha hs.length hc] := h15
    simp only [List.cons.injEq, and_true] at h0' h1' h2' h3' h4' h5' h6' h7' h8' h9' h10' h11' h12' h13' h14' h15'
    subst h0' h1' h2' h3' h4' h5' h6' h7' h8' h9' h10' h11' h12' h13' h14' h15'
    exact ⟨⟨x0, x1, x2, x3, x4, x5, x6, x7, x8, x9, x10, x11, pa, pc, ps, oa, oc, os, va, vc, vs, ha, hc, hs⟩, rfl, ⟨p3, ⟨o1.1.1, o1.1.2⟩, v3, q1, fun x hx => (q3 x hx).1⟩, ⟨p1, o1.2.1, v1, fun x hx => (q3 x hx).2, p2, o1.2.2, v2, q2⟩, ⟨k0, k1.1, k3.1, k5.1, k4.1⟩, ⟨k0, k1, k2, k3, k4, k5, k6, k7, k8.2, k9.2, k10.2, k11.2⟩⟩
set_option maxHeartbeats 1000000 in
set_option maxRecDepth 100000 in
theorem Rd.eo {H : Type} {enc : TypeId × Value → H} {W : World} {cs : List Value} (h : Rd enc Tryz.prog W 38 cs) : ∃ o : EO, cs = o.cells ∧ EOK (all0 W) o := by
  obtain ⟨hl, hf⟩ := h.fields Tryz.underlying38
  obtain ⟨fr, h0, _⟩ := Rd.i64 (hf 0 _ rfl)
  obtain ⟨n, h1, n1, n2, n3, n4⟩ := Rd.note (hf 1 _ rfl)
  obtain ⟨w, h2⟩ := Rd.bool (hf 2 _ rfl) Tryz.underlying4
  obtain ⟨r, h3⟩ := Rd.bool (hf 3 _ rfl) Tryz.underlying4
  obtain ⟨ask, h4, _⟩ := Rd.u64 (hf 4 _ rfl)
  obtain ⟨id, h5, _⟩ := Rd.u64 (hf 5 _ rfl)
  have hl' : cs.length = 21 := hl.trans (by kernel_rfl)
  match cs, hl' with
  | [u0, u1, u2, u3, u4, u5, u6, u7, u8, u9, u10, u11, u12, u13, u14, u15, u16, u17, u18, u19, u20], _ =>
    have h0' : [u0] = [Value.int .i64 fr] := h0
    have h1' : [u1, u2, u3, u4, u5, u6, u7, u8, u9, u10, u11, u12, u13, u14, u15, u16] = n.cells := h1
    have h2' : [u17] = [Value.bool w] := h2
    have h3' : [u18] = [Value.bool r] := h3
    have h4' : [u19] = [Value.int .u64 ask] := h4
    have h5' : [u20] = [Value.int .u64 id] := h5
    simp only [List.cons.injEq, and_true] at h0' h1' h2' h3' h4' h5'
    obtain ⟨e1, e2, e3, e4, e5, e6, e7, e8, e9, e10, e11, e12, e13, e14, e15, e16⟩ := h1'
    subst h0' h2' h3' h4' h5' e1 e2 e3 e4 e5 e6 e7 e8 e9 e10 e11 e12 e13 e14 e15 e16
    exact ⟨⟨fr, n, w, r, ask, id⟩, rfl, n1, n2, n3, n4⟩
end Go.Proofs.YtjidejcehmamkaaGreatDoor
namespace Go.Proofs.YtjidejcehmamkaaGreatDoor
open Go Go.SX Go.ChangeShapes Go.WideShapes Go.ChangeAt Go.RowKit
abbrev sortD {H : Type} (p : ST) : DataW H := .agg [.lit (.string p.1), .lit (.int .i64 (p.2 : Int))]
theorem laid_is {H : Type} : (Rows.laid_armillary_note_sorts : DataW H) = .agg (sortsT.map sortD) := by kernel_rfl
theorem flat_of {α : Type} {g : α → List Value} {sz : Nat} (hg : ∀ x, (g x).length = sz) (h0 : 0 < sz) {l : List α} {cs : List Value} (hl : cs.length = l.length * sz) (h : ∀ i x, l[i]? = some x → (cs.drop (i * sz)).take sz = g x) : cs = l.flatMap g := by
  have hlen : (l.flatMap g).length = l.length * sz := by
    clear hl h
    induction l with
    | nil => simp
    | cons y l ih => rw [List.flatMap_cons, List.length_append, ih, hg, List.length_cons, Nat.succ_mul, Nat.add_comm]
  apply List.ext_getElem?
  intro k
  by_cases hk : k < l.length * sz
  · have hi : k / sz < l.length := (Nat.div_lt_iff_lt_mul h0).2 hk
    have hr : k % sz < sz := Nat.mod_lt _ h0
    have e : k = k / sz * sz + k % sz := by rw [Nat.mul_comm]; exact (Nat.div_add_mod k sz).symm
    obtain ⟨x, hx⟩ := mem_get hi
    have h1 := h _ x hx
    have h2 : (g x)[k % sz]? = cs[k]? := by
      rw [← h1, List.getElem?_take_of_lt hr, List.getElem?_drop, ← e]
    have h3 : k % sz < (g x).length := by rw [hg]; exact hr
    have h4 := flat_get hg l (k / sz) (k % sz) x _ hx (List.getElem?_eq_getElem h3)
    rw [← e] at h4
    rw [h4, ← h2, List.getElem?_eq_getElem h3]
  · rw [List.getElem?_eq_none (by omega), List.getElem?_eq_none (by omega)]
theorem gSorts : Tryz.prog.globalNamed "armillary/note.sorts" = some 0 := by kernel_rfl
theorem gSortsT : (Tryz.prog.globals[0]?).map (·.type) = some 255 := by kernel_rfl
theorem cellsS : Tryz.prog.cellsOf 209 = 2 := by kernel_rfl
theorem cellsSA : Tryz.prog.cellsOf 255 = 46 := by kernel_rfl
theorem cellsStr : Tryz.prog.cellsOf 9 = 1 := by kernel_rfl
theorem cellsInt : Tryz.prog.cellsOf 3 = 1 := by kernel_rfl
theorem sort_cells {W : World} {fuel : Nat} {cs : List Value} {p : ST} {q : List MemPlace} (h : DataW.trod (fun _ => ()) Tryz.prog W 0 (fun _ => true) false fuel 209 cs = some (sortD p, q)) : cs = ST.cells p := by
  obtain ⟨y0, y1, n, e, hl, h0, h1⟩ := trod_struct2 Tryz.underlying209 h
  rw [cellsS] at hl
  dsimp only at h0 h1
  rw [cellsStr] at h0
  rw [cellsInt] at h1
  have e' := congrArg Prod.fst e
  simp only [DataW.agg.injEq, List.cons.injEq, and_true] at e'
  obtain ⟨s, hs, hy0, _⟩ := DataW.trod_string Tryz.underlying9 h0
  obtain ⟨z, hz, hy1, _⟩ := DataW.trod_int Tryz.underlying3 h1
  subst hy0 hy1
  simp only [DataW.lit.injEq, Lit.string.injEq, Lit.int.injEq, true_and] at e'
  match cs, hl with
  | [u, v], _ =>
    have hs' : [u] = [Value.string s] := hs
    have hz' : [v] = [Value.int .i64 z] := hz
    simp only [List.cons.injEq, and_true] at hs' hz'
    subst hs' hz'
    have : str p.1 = Value.string s := by
      unfold str
      rw [e'.1]
    rw [← e'.2, ← this]
theorem tab_of_laid {W : World} (h : laidMet Tryz.prog [("armillary/note.sorts", Rows.laid_armillary_note_sorts)] W) : TabM (all0 W) := by
  obtain ⟨ps, ⟨g', t', cs, fuel, p, q, hg', ht', hvar, hd, _, _⟩, _⟩ := h
  obtain rfl := Option.some.inj (gSorts.symm.trans hg')
  obtain rfl := Option.some.inj (gSortsT.symm.trans ht')
  rw [laid_is] at hd
  obtain ⟨xs, m, _, e, hl, hxl, hx⟩ := DataW.trod_array Tryz.underlying255 hd
  rw [cellsSA] at hl
  have e1 := congrArg Prod.fst e
  simp only [DataW.agg.injEq] at e1
  have hcs : cs.toList = sortsC := by
    refine flat_of (g := ST.cells) (sz := 2) (fun _ => rfl) (by decide) (hl.trans (by decide)) (fun i x hi => ?_)
    have hi' : i < 23 := (List.getElem?_eq_some_iff.1 hi).1
    have h1 := hx i hi'
    rw [cellsS] at h1
    obtain ⟨y, hy⟩ := mem_get (l := xs) (by rw [hxl]; exact hi')
    rw [hy] at h1
    have h2 : (xs.map (·.1))[i]? = some y.1 := by rw [List.getElem?_map, hy]; rfl
    rw [← e1, List.getElem?_map, hi] at h2
    have h3 := Option.some.inj h2
    exact sort_cells (p := x) (q := y.2) (by rw [h1, show sortD x = y.1 from h3])
  unfold World.var? at hvar
  rw [gSorts] at hvar
  simp only [Option.bind_some] at hvar
  refine ⟨by decide, .inr ⟨0, 0, ?_⟩⟩
  cases hb : W.heap[0]? with
  | none => rw [hb] at hvar; cases hvar
  | some o =>
    rw [hb] at hvar
    cases o with
    | cells l t fz =>
      dsimp only at hvar
      cases hvar
      refine ⟨cs, t, fz, rfl, hb, fun j v hv => ?_⟩
      rw [← hcs] at hv
      rw [Nat.zero_add]
      simpa using hv
    | _ => cases hvar
end Go.Proofs.YtjidejcehmamkaaGreatDoor
