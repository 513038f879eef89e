/- Readings opened: from what the arguments read as to cells that stay; rows. The journal's rows: what the listed variables hold. JournalNil. No condition. -/
import Derived.ReadAgain
import Derived.ChangeArms
import Derived.WideShapes
import Derived.KernelRfl
import Derived.Test.YtkleenllkjodoaaGreatDoorCards
import Derived.Test.YtkleenllkjodoaaGreatDoorTie
import Derived.Deep.DeepHandedRow
import Derived.Lib.LaidTab
import Derived.Stop.LaidErr
import Derived.Lay
import Derived.Test.YtkleenllkjodoaaGreatDoorPk06
set_option linter.unusedVariables false
set_option linter.unusedSimpArgs false
set_option linter.unusedSectionVars false
namespace Go.SX
open Go Go.ChangeShapes Go.WideShapes Go.RowKit
section
variable {H : Type} {enc : TypeId × Value → H} {P : Program} {W : World}
def Rd (enc : TypeId × Value → H) (P : Program) (W : World) (t : TypeId) (cs : List Value) : Prop := ∃ n x, DataW.trod enc P W 0 (fun _ => true) true n t cs = some x
theorem cells_of {w : World} {base : Nat} {a : Addr} {n : Nat} {cs : List Value} (h : w.cells? base a n = some cs) : cs.length = n ∧ ∀ j, j < n → w.cell? (a.add j) = cs[j]? := by
  unfold World.cells? at h
  split at h
  · exact ⟨by simpa using mapM_some_length h, fun j hj => by simpa using mapM_some_get h j j (by simp [hj])⟩
  · cases h
theorem cell_block {w : World} {a : Addr} {v : Value} (h : w.cell? a = some v) : ∃ l t fz, w.heap[a.block]? = some (.cells l t fz) ∧ l[a.off]? = some v ∧ a.spot = none := by
  unfold World.cell? at h
  split at h
  · rename_i c t fz hb
    split at h
    · cases h
    · rename_i hs
      refine ⟨c, t, fz, hb, h, by simpa using hs⟩
  · cases h
theorem add_at (x y n : Nat) : (⟨x, y, none⟩ : Addr).add n = ⟨x, y + n, none⟩ := by unfold Addr.add; split <;> simp_all
theorem flat_at {sz : Nat} : ∀ {rows : List (List Value)} {j : Nat} {v : Value}, (∀ r ∈ rows, r.length = sz) → rows.flatten[j]? = some v → ∃ k r i, rows[k]? = some r ∧ r[i]? = some v ∧ j = k * sz + i
  | [], j, v, _, h => by simp at h
  | r :: rows, j, v, hr, h => by
    have h0 := hr r (by simp)
    rw [List.flatten_cons] at h
    by_cases hj : j < r.length
    · rw [List.getElem?_append_left hj] at h
      exact ⟨0, r, j, rfl, h, by simp⟩
    · rw [List.getElem?_append_right (by omega)] at h
      obtain ⟨k, r', i, h1, h2, h3⟩ := flat_at (fun x hx => hr x (by simp [hx])) h
      exact ⟨k + 1, r', i, by simpa using h1, h2, by rw [Nat.succ_mul]; omega⟩
theorem Rd.slice {t e : TypeId} {sz : Nat} {cs : List Value} (h : Rd enc P W t cs) (ht : P.underlying t = some (.slice e)) (hs : P.cellsOf e = sz) (h0 : 0 < sz) :
    ∃ (a : Option Addr) (c : Nat) (rows : List (List Value)), cs = [.slice a rows.length c] ∧ rows.length ≤ c ∧ c ≤ maxLen ∧ SlM (all0 W) a rows.length sz rows.flatten ∧ ∀ r ∈ rows, r.length = sz ∧ Rd enc P W e r := by
  obtain ⟨n, x, h⟩ := h
  rcases DataW.trod_slice ht h with ⟨rfl, _⟩ | ⟨a, len, cap, elems, rest, n, rfl, rfl, _, _, hlc, hcm, hel, hat, _⟩
  · exact ⟨none, 0, [], rfl, Nat.le_refl _, Nat.zero_le _, SlM.nil, by simp⟩
  · simp only [hs] at hat
    have hrow : ∀ i, i < len → ∃ r y, W.cells? 0 (a.add (i * sz)) sz = some r ∧ DataW.trod enc P W 0 (fun _ => true) true n e r = some y := fun i hi => by
      have := hat i hi
      have hi' : i < elems.length := by omega
      rw [List.getElem?_eq_getElem hi'] at this
      obtain ⟨r, h1, h2⟩ := Option.bind_eq_some_iff.1 this
      exact ⟨r, _, h1, h2⟩
    let rows := (List.range len).map fun i => (W.cells? 0 (a.add (i * sz)) sz).getD []
    have hrl : rows.length = len := by simp [rows]
    have hri : ∀ i r, rows[i]? = some r → i < len ∧ W.cells? 0 (a.add (i * sz)) sz = some r := fun i r hr => by
      have hi : i < len := by have := (List.getElem?_eq_some_iff.1 hr).1; omega
      obtain ⟨r', y, h1, _⟩ := hrow i hi
      refine ⟨hi, ?_⟩
      simp only [rows, List.getElem?_map, List.getElem?_range hi, Option.map_some, Option.some.injEq, h1, Option.getD_some] at hr
      rw [← hr]; exact h1
    have hmem : ∀ r ∈ rows, r.length = sz ∧ Rd enc P W e r := fun r hr => by
      obtain ⟨i, hi, rfl⟩ := List.getElem_of_mem hr
      obtain ⟨h1, h2⟩ := hri i _ (List.getElem?_eq_getElem hi)
      obtain ⟨r', y, h3, h4⟩ := hrow i h1
      rw [h2] at h3; cases h3
      exact ⟨(cells_of h2).1, n, y, h4⟩
    refine ⟨some a, cap, rows, by rw [hrl], by omega, hcm, ⟨?_, ?_⟩, hmem⟩
    · have : ∀ l : List (List Value), (∀ r ∈ l, r.length = sz) → l.flatten.length = l.length * sz := by
        intro l
        induction l with
        | nil => simp
        | cons r l ih => intro h; rw [List.flatten_cons, List.length_append, h r (by simp), ih (fun x hx => h x (by simp [hx])), List.length_cons, Nat.succ_mul]; omega
      exact this rows fun r hr => (hmem r hr).1
    · by_cases hl0 : len = 0
      · exact .inl (by omega)
      · refine .inr ?_
        obtain ⟨r0, y0, h1, _⟩ := hrow 0 (by omega)
        have h2 := (cells_of h1).2 0 h0
        have hr0 : 0 < r0.length := by rw [(cells_of h1).1]; exact h0
        rw [List.getElem?_eq_getElem hr0] at h2
        obtain ⟨l, tt, fz, hb, hc, hsp⟩ := cell_block h2
        have ea : (a.add (0 * sz)).add 0 = a := by simp [Addr.add]
        rw [ea] at hb hc hsp
        have eA : a = ⟨a.block, a.off, none⟩ := by cases a; simp_all
        refine ⟨a.block, a.off, l, tt, fz, by rw [← eA], hb, fun j v hv => ?_⟩
        obtain ⟨k, r, i, h3, h4, rfl⟩ := flat_at (fun r hr => (hmem r hr).1) hv
        obtain ⟨h5, h6⟩ := hri k r h3
        have hi : i < sz := by rw [← (cells_of h6).1]; exact (List.getElem?_eq_some_iff.1 h4).1
        have h7 := (cells_of h6).2 i hi
        rw [h4] at h7
        have e2 : (a.add (k * sz)).add i = ⟨a.block, a.off + (k * sz + i), none⟩ := by
          rw [eA, add_at, add_at, Nat.add_assoc]
        rw [e2] at h7
        simp only [World.cell?, hb] at h7
        simpa using h7
theorem Rd.list {t e : TypeId} {sz : Nat} {cs : List Value} {α : Type} {g : α → List Value} {Q : α → Prop} (he : ∀ r, Rd enc P W e r → ∃ x, r = g x ∧ Q x) (h : Rd enc P W t cs) (ht : P.underlying t = some (.slice e)) (hs : P.cellsOf e = sz) (h0 : 0 < sz) :
    ∃ (a : Option Addr) (c : Nat) (xs : List α), cs = [.slice a xs.length c] ∧ xs.length ≤ c ∧ c ≤ maxLen ∧ SlM (all0 W) a xs.length sz (xs.flatMap g) ∧ ∀ x ∈ xs, Q x := by
  obtain ⟨a, c, rows, h1, h2, h3, h4, h5⟩ := h.slice ht hs h0
  have key : ∀ rows : List (List Value), (∀ r ∈ rows, r.length = sz ∧ Rd enc P W e r) → ∃ xs : List α, rows = xs.map g ∧ ∀ x ∈ xs, Q x := by
    intro rows
    induction rows with
    | nil => exact fun _ => ⟨[], rfl, by simp⟩
    | cons r rows ih =>
      intro h
      obtain ⟨xs, e1, e2⟩ := ih fun x hx => h x (by simp [hx])
      obtain ⟨x, e3, e4⟩ := he r (h r (by simp)).2
      refine ⟨x :: xs, by rw [List.map_cons, ← e1, ← e3], fun y hy => ?_⟩
      rcases List.mem_cons.1 hy with rfl | hy
      · exact e4
      · exact e2 y hy
  obtain ⟨xs, e1, e2⟩ := key rows h5
  have el : rows.length = xs.length := by rw [e1, List.length_map]
  rw [el] at h1 h2 h4
  refine ⟨a, c, xs, h1, h2, h3, ?_, e2⟩
  rw [List.flatMap_def, ← e1]; exact h4
theorem Rd.int {t : TypeId} {k : IntKind} {cs : List Value} (h : Rd enc P W t cs) (ht : P.underlying t = some (.int k)) : ∃ n, cs = [.int k n] ∧ (Lit.int k n).wf = true := by
  obtain ⟨n, x, h⟩ := h
  obtain ⟨v, h1, _, h2⟩ := DataW.trod_int ht h
  exact ⟨v, h1, h2⟩
theorem Rd.bool {t : TypeId} {cs : List Value} (h : Rd enc P W t cs) (ht : P.underlying t = some .bool) : ∃ b, cs = [.bool b] := by
  obtain ⟨n, x, h⟩ := h
  obtain ⟨v, h1, _⟩ := DataW.trod_bool ht h
  exact ⟨v, h1⟩
theorem Rd.byte {t : TypeId} {cs : List Value} (h : Rd enc P W t cs) (ht : P.underlying t = some (.int .u8)) : ∃ x, cs = [B x] ∧ True := by
  obtain ⟨n, rfl, h1⟩ := h.int ht
  have h2 : 0 ≤ n ∧ n ≤ 255 := bounds_u8 h1
  refine ⟨UInt8.ofNat n.toNat, ?_, trivial⟩
  have : (UInt8.ofNat n.toNat).toNat = n.toNat := by simp; omega
  simp only [B, this]
  rw [Int.toNat_of_nonneg h2.1]
theorem Rd.bytes {t e : TypeId} {cs : List Value} (h : Rd enc P W t cs) (ht : P.underlying t = some (.slice e)) (he : P.underlying e = some (.int .u8)) (hs : P.cellsOf e = 1) :
    ∃ (a : Option Addr) (c : Nat) (bs : List UInt8), cs = [.slice a bs.length c] ∧ bs.length ≤ c ∧ c ≤ maxLen ∧ SlM (all0 W) a bs.length 1 (bs.map B) := by
  obtain ⟨a, c, xs, h1, h2, h3, h4, _⟩ := Rd.list (g := fun x => [B x]) (fun r hr => hr.byte he) h ht hs (by omega)
  refine ⟨a, c, xs, h1, h2, h3, ?_⟩
  have key : ∀ xs : List UInt8, xs.flatMap (fun x => [B x]) = xs.map B := fun xs => by induction xs with
    | nil => rfl
    | cons x xs ih => rw [List.flatMap_cons, ih]; rfl
  rwa [key] at h4
theorem args_again (K : Kids P (· < P.types.size)) (hz : ∀ t e, t < P.types.size → P.underlying t = some (.slice e) → 0 < P.cellsOf e) {W' : World} {ts : List TypeId} {vs : List Value} {ds : List (DataW H)} {ps : List MemPlace} (hT : ∀ t ∈ ts, t < P.types.size)
    (h : DataW.TrodAll enc P W 0 (fun _ => true) true ts vs ds ps) (hk : Kept W W') (sp : Nat → Bool) (hs : ∀ p ∈ ps, sp p.block = true) : DataW.TrodAll enc P W' 0 sp true ts vs ds ps :=
  DataW.TrodAll.respare K hz hT (trodAll_kept hk h) hs
theorem trodAll_rd : ∀ {ts : List TypeId} {vs : List Value} {ds : List (DataW H)} {ps : List MemPlace}, DataW.TrodAll enc P W 0 (fun _ => true) true ts vs ds ps → vs.length = ts.length ∧ ds.length = ts.length ∧ ∀ (i : Nat) (t : TypeId) (v : Value), ts[i]? = some t → vs[i]? = some v → Rd enc P W t v.cells.toList
  | [], [], [], _, _ => ⟨rfl, rfl, fun i t v h => by simp at h⟩
  | t :: ts, v :: vs, d :: ds, ps, ⟨p, q, ⟨n, h1⟩, h2, _⟩ => by
    obtain ⟨e1, e2, e3⟩ := trodAll_rd h2
    refine ⟨by simp [e1], by simp [e2], fun i t' v' h h' => ?_⟩
    cases i with
    | zero => simp at h h'; subst h h'; exact ⟨n, _, h1⟩
    | succ i => exact e3 i t' v' (by simpa using h) (by simpa using h')
structure Arg (enc : TypeId × Value → H) (P : Program) (W : World) (t : TypeId) (v : Value) : Prop where
  rd : Rd enc P W t v.cells.toList
  ok : ∃ base, Value.okWide P W .any base t v
theorem Arg.int {t : TypeId} {k : IntKind} {v : Value} (h : Arg enc P W t v) (ht : P.underlying t = some (.int k)) : ∃ n, v = .int k n ∧ (Lit.int k n).wf = true := by
  obtain ⟨r, _, o⟩ := h
  obtain ⟨n, rfl⟩ := okWide_int ht o
  obtain ⟨m, h1, h2⟩ := r.int ht
  simp [Value.cells] at h1
  subst h1
  exact ⟨n, rfl, h2⟩
theorem Arg.bool {t : TypeId} {v : Value} (h : Arg enc P W t v) (ht : P.underlying t = some .bool) : ∃ b, v = .bool b := by
  obtain ⟨r, _, o⟩ := h
  exact okWide_bool ht o
theorem Arg.bytes {t e : TypeId} {v : Value} (h : Arg enc P W t v) (ht : P.underlying t = some (.slice e)) (he : P.underlying e = some (.int .u8)) (hs : P.cellsOf e = 1) :
    ∃ (a : Option Addr) (c : Nat) (bs : List UInt8), v = .slice a bs.length c ∧ bs.length ≤ c ∧ c ≤ 9223372036854775807 ∧ SlM (all0 W) a bs.length 1 (bs.map B) := by
  obtain ⟨r, _, o⟩ := h
  obtain ⟨a, l, c, rfl⟩ := okWide_slice ht o
  obtain ⟨a', c', xs, h1, h2, h3, h4⟩ := r.bytes ht he hs
  simp [Value.cells] at h1
  obtain ⟨rfl, rfl, rfl⟩ := h1
  exact ⟨_, _, xs, rfl, h2, h3, h4⟩
theorem row_post {f : FuncId} {F : Func} {s : ChangeSpec} {tb : TypeId} {args : Array Value} {ds gs : List (DataW H)} {before : List MemPlace} {handsOn again : Bool} (K : Kids P (· < P.types.size)) (hz : ∀ t e, t < P.types.size → P.underlying t = some (.slice e) → 0 < P.cellsOf e)
    (hT : (F.params.toList.all fun t => decide (t < P.types.size)) = true) (hvs : s.vars = []) (hfn : ∀ ds : List (DataW H), ds.length = F.params.toList.length → s.fn H ds = { results := [.lit (.bool true)], args := ds }) (hrt : F.resultTypes = #[tb]) (htb : P.underlying tb = some .bool)
    {base : Nat} (hval : ∀ (j : Nat) t v, F.params[j]? = some t → args[j]? = some v → Value.okWide P W .any base t v)
    (hW : DataW.Whole enc P F.params.toList s.vars false W args.toList ds gs before)
    (hw : (∀ (i : Nat) (t : TypeId) (v : Value), F.params.toList[i]? = some t → args.toList[i]? = some v → Arg enc P W t v) → args.toList.length = F.params.toList.length → CallsS P f args.toList [roM (all0 W)] (fun v _ => v = .bool true)) :
    Calls P f args W fun e W' => ∃ v, e = .returned v ∧ s.post enc P F false true handsOn again W args v W' := by
  have hW' := hW
  obtain ⟨p, q, hA, hV, rfl, hfz, hnd⟩ := hW
  rw [hvs] at hV
  obtain ⟨rfl, rfl⟩ : gs = [] ∧ q = [] := by
    cases gs with
    | nil => exact ⟨rfl, hV⟩
    | cons g gs => exact hV.elim
  obtain ⟨h1, h2, h3⟩ := trodAll_rd hA
  have hc := (hw (fun i t v e1 e2 => ⟨h3 i t v e1 e2, base, hval i t v (by simpa using e1) (by simpa using e2)⟩) h1).kept
  refine hc.mono fun e W' ⟨he, hk⟩ => ?_
  subst he
  have hf := hfn ds h2
  refine ⟨_, rfl, post_kept (pa := p) (pv := []) hW' (fun b sp hd => ?_) (fun sp hsp => ?_) (fun sp _ => ?_) rfl hk ?_⟩
  · rw [hrt, List.append_nil, hf]
    exact trodAll_cons_mk (shut_bool htb _) trodAll_mk0
  · rw [List.append_nil, hf]
    exact args_again K hz (fun t ht => of_decide_eq_true (List.all_eq_true.1 hT t ht)) hA hk sp (fun x hx => hsp x (by simp [hx]))
  · rw [hvs, List.append_nil, hf]; rfl
  · exact ok_one hrt rfl (okWide_bool_mk htb _)
end
end Go.SX
namespace Go.Proofs.YtkleenllkjodoaaGreatDoor
open Go Go.SX Go.ChangeShapes Go.WideShapes Go.ChangeAt Go.RowKit
abbrev laidL : List (String × DataW Unit) := [("math/bits.deBruijn32tab", Rows.laid_math_bits_deBruijn32tab), ("math/bits.deBruijn64tab", Rows.laid_math_bits_deBruijn64tab), ("internal/strconv.uint64pow10", Rows.laid_internal_strconv_uint64pow10), ("strconv.ErrRange", Rows.laid_strconv_ErrRange), ("strconv.ErrSyntax", Rows.laid_strconv_ErrSyntax), ("armillary/seal.nibble", Rows.laid_armillary_seal_nibble)]
theorem gNib : Tryz.prog.globalNamed "armillary/seal.nibble" = some 0 := by kernel_rfl
theorem gNibT : (Tryz.prog.globals[0]?).map (·.type) = some 125 := by kernel_rfl
theorem gErr : Tryz.prog.globalNamed "strconv.ErrSyntax" = some 3 := by kernel_rfl
theorem gErrT : (Tryz.prog.globals[3]?).map (·.type) = some 130 := by kernel_rfl
theorem starE : "*" ++ "errors.errorString" = "*errors.errorString" := by decide
theorem rowE (u : TypeId) (h : Tryz.prog.typeName? 3 u = some "*errors.errorString") : u = 184 :=
  typeName_ptr_named (nm := "errors.errorString") (by rw [starE]; kernel_rfl) (by kernel_rfl) (by decide) u (by rw [starE]; exact h)
theorem nib_is : (Rows.laid_armillary_seal_nibble : DataW Unit) = Lib.tabData .u32 (nibT.map fun z : Nat => (z : Int)) := by kernel_rfl
theorem heap_var {W : World} {n : String} {g : Nat} {cs : Array Value} (hg : Tryz.prog.globalNamed n = some g) (h : W.var? Tryz.prog n = some cs) : ∃ t fz, W.heap[g]? = some (.cells cs t fz) := by
  unfold World.var? at h
  rw [hg] at h
  simp only [Option.bind_some] at h
  cases hb : W.heap[g]? with
  | none => rw [hb] at h; cases h
  | some o =>
    rw [hb] at h
    cases o with
    | cells l t fz => dsimp only at h; cases h; exact ⟨t, fz, rfl⟩
    | _ => cases h
theorem nib_of_laid {W : World} (h : laidMet Tryz.prog laidL W) : NibM (all0 W) := by
  have h1 := h.tail.tail.tail.tail.tail
  rw [nib_is] at h1
  have h2 := Lib.tabIs_of_head gNib gNibT Tryz.underlying125 Tryz.underlying108 (by kernel_rfl) (by kernel_rfl) h1
  obtain ⟨t, fz, h3⟩ := heap_var gNib h2
  refine ⟨by decide, .inr ⟨0, 0, _, t, fz, rfl, h3, fun j v hv => ?_⟩⟩
  rw [Nat.zero_add]
  simpa [nibC, List.map_map] using hv
theorem err_of_laid {W : World} (h : laidMet Tryz.prog laidL W) : ErrM (all0 W) := by
  have h1 := h.tail.tail.tail.tail
  obtain ⟨a, s, h2, _⟩ := laid_sentinel h1 gErr gErrT Tryz.underlying130 rowE Tryz.underlying184 Tryz.underlying186 rfl rfl Tryz.underlying9 (by kernel_rfl) (by kernel_rfl)
  obtain ⟨t, fz, h3⟩ := heap_var gErr h2
  refine ⟨184, .pointer (some a), rfl, .inr ⟨3, 0, _, t, fz, rfl, h3, fun j v hv => ?_⟩⟩
  rw [Nat.zero_add]
  simpa using hv
theorem laid_fits (os : Os) : (World.holding Tryz.prog os ⟨#[], #[], []⟩).layFits Tryz.prog laidL [] = true := by kernel_rfl
theorem laid_ifaces (os : Os) : (World.holding Tryz.prog os ⟨#[], #[], []⟩).layIfaces Tryz.prog laidL (World.laidAll Tryz.prog os laidL) = true := by kernel_rfl
theorem laid_all (os : Os) (args : Array Value) : laidMet Tryz.prog laidL ((World.laidAll Tryz.prog os laidL).forCall (fun _ _ => 0) ⟨#[], args, []⟩).memory := laidMet_laidAll args (laid_fits os) (laid_ifaces os)
end Go.Proofs.YtkleenllkjodoaaGreatDoor
namespace Go.Proofs.YtkleenllkjodoaaGreatDoor
open Go Go.SX
attribute [local irreducible] swp opsS thenS blockS retS CallsS St Ent YieldS anyS drawS
theorem opn_none {d : DK} (hd : d.down = false) (h : latN (namesD d) = -1) : opnE d = 4 ∧ opnS d = d := by
  have hB : opB d = none := by unfold opB; rw [if_pos (by rw [h]; decide)]
  refine ⟨by unfold opnE; rw [if_neg (by rw [hd]; decide), if_pos hB], by unfold opnS; rw [if_neg (by rw [hd]; decide), if_pos hB]⟩
theorem names0 (l : Int) (dn : Bool) (room : Int) : namesD ⟨l, dn, room, []⟩ = [] := by
  unfold namesD srtS
  exact List.mergeSort_of_pairwise (by simp)
theorem namesA (l : Int) (dn : Bool) (room : Int) (b : List UInt8) (f : Nat) : namesD ⟨l, dn, room, [([97], b, f)]⟩ = [[97]] := by
  unfold namesD srtS
  exact List.mergeSort_of_pairwise (by simp)
theorem lat0 : latN [] = -1 := rfl
theorem latA : latN [[97]] = -1 := by
  show latM (-1) [97] = -1
  unfold latM
  rw [numOf_ne (by decide)]
set_option maxHeartbeats 4000000 in
theorem JournalNil_spec (a : Option Addr) (c : Nat) (bs : List UInt8) (M : Nat → Option Obj) (L : List HP) (h : SlM M a bs.length 1 (bs.map B)) (hc : bs.length ≤ c) (hE : ErrM M) (hT : NibM M) :
    CallsS Tryz.prog 8 [.slice a bs.length c] (roM M :: L) (fun v _ => v = .bool true) := by
  refine CallsS.of_body Tryz.func8 rfl rfl rfl ?_
  refine Q.r ?_; (repeat (intro b1; refine Q.r ?_))
  refine S.cr rfl (awakeJ_spec M _ hE hT) ?_
  rintro _ _ ⟨rfl, M1, hl1, rfl⟩
  have h1 := h.mono hl1
  have hE1 := hE.mono hl1
  have hT1 := hT.mono hl1
  refine Q.r ?_; (repeat (intro b1; refine Q.r ?_))
  refine S.cr rfl (RCut_spec a c bs 100 _ h1.rd hc (by decide)) ?_
  rintro _ _ ⟨a2, c2, rfl, rfl⟩
  obtain ⟨s, hs⟩ : ∃ s, s = bs.take 100 := ⟨_, rfl⟩
  have hsl : s.length ≤ 100 := by rw [hs, List.length_take]; omega
  rw [← hs]
  refine opsS_absc a2 (fun M2 hl2 hs2 hc2 => ?_)
  have hE2 := hE1.mono hl2
  have hT2 := hT1.mono hl2
  refine Q.r ?_; (repeat (intro b1; refine Q.r ?_))
  refine S.cr rfl (Put_nil _ _) ?_
  rintro _ _ ⟨rfl, rfl⟩
  refine Q.r ?_; (repeat (intro b1; refine Q.r ?_))
  refine S.cr rfl (Force_nil _) ?_
  rintro _ _ ⟨rfl, rfl⟩
  refine Q.r ?_; (repeat (intro b1; refine Q.r ?_))
  refine S.cr rfl (Save_nil _ _) ?_
  rintro _ _ ⟨rfl, rfl⟩
  refine Q.r ?_; (repeat (intro b1; refine Q.r ?_))
  refine S.cr rfl (Gen_nil _) ?_
  rintro _ _ ⟨rfl, rfl⟩
  refine Q.r ?_; (repeat (intro b1; refine Q.r ?_))
  refine S.cr rfl (Count_nil _) ?_
  rintro _ _ ⟨rfl, rfl⟩
  refine Q.r ?_; (repeat (intro b1; refine Q.r ?_))
  refine S.cr rfl (Broken_nil _) ?_
  rintro _ _ ⟨rfl, rfl⟩
  refine Q.r ?_; (repeat (intro b1; refine Q.r ?_))
  refine S.cr rfl (Format_nil _ _) ?_
  rintro _ _ ⟨rfl, rfl⟩
  refine Q.r ?_; (repeat (intro b1; refine Q.r ?_))
  refine S.cr rfl (Open_nil _) ?_
  rintro _ _ ⟨rfl, rfl⟩
  refine Q.r ?_; (repeat (intro b1; refine Q.r ?_))
  refine S.cr rfl (DNew_spec 500 _ (by decide)) ?_
  rintro _ _ ⟨p, rfl, rfl⟩
  refine Q.r ?_; (repeat (intro b1; refine Q.r ?_))
  have hD0 : namesD (D0 500) = [] := names0 _ _ _
  have hL0 : latN (namesD (D0 500)) = -1 := by rw [hD0]; exact lat0
  refine S.ckm p rfl (Open_spec p (D0 500) M2 _ hE2 hT2 (fun n hn => by rw [hD0] at hn; cases hn)) ?_
  rintro _ _ ⟨M3, hl3, ⟨_, rfl, rfl⟩ | ⟨he, _⟩⟩
  case inr => rw [(opn_none rfl hL0).1] at he; cases he
  rw [(opn_none (d := D0 500) rfl hL0).1, (opn_none (d := D0 500) rfl hL0).2]
  refine Q.r ?_; (repeat (intro b1; refine Q.r ?_))
  refine opsS_absR b1 (t := 31) (l := [.slice a2 s.length c2]) (m := 1) (cs := [.slice a2 s.length c2]) (Nat.le_refl _) rfl (fun M4 hl4 hs4 => ?_)
  have hT4 := (hT2.mono hl3).mono hl4
  have hE4 := (hE2.mono hl3).mono hl4
  have hs24 : SlM M4 a2 s.length 1 (s.map B) := (hs2.mono hl3).mono hl4
  have hcv : catY [(⟨a2, c2, s⟩ : YB)] = s := by simp
  refine S.ckm p rfl (Write_spec p (D0 500) [97] (some ⟨b1, 0, none⟩) 1 [⟨a2, c2, s⟩] M4 _ ⟨by decide, by decide, by decide⟩ (by decide) hs4 (fun v hv => by rw [List.mem_singleton.1 hv]; exact hs24) (Nat.le_refl _) (by simp) (by rw [hcv]; omega)) ?_
  rintro _ _ ⟨rfl, M5, hl5, rfl⟩
  rw [hcv]
  have hw0 : wrE (D0 500) s = 0 := by
    rw [wr_live (D0_live 500)]
    have : usedD (D0 500).fs = 0 := rfl
    have hr : (D0 500).room = 500 := rfl
    rw [this, hr, if_neg (by omega)]
  have hw1 : wrS (D0 500) [97] s = ⟨-1, false, 500, [([97], s, 0)]⟩ := by rw [wrS_live (D0_live 500) hw0]; rfl
  rw [hw1]
  refine Q.r ?_; (repeat (intro b1; refine Q.r ?_))
  have hT5 := hT4.mono hl5
  have hE5 := hE4.mono hl5
  have hnA := namesA (-1) false 500 s 0
  have hLA : latN (namesD ⟨-1, false, 500, [([97], s, 0)]⟩) = -1 := by rw [hnA]; exact latA
  refine S.ckm p rfl (Format_spec p ⟨-1, false, 500, [([97], s, 0)]⟩ a2 c2 s M5 _ (hs24.mono hl5) hT5 hc2 (by omega)) ?_
  rintro _ _ ⟨rfl, M6, hl6, rfl⟩
  have hfE : foE ⟨-1, false, 500, [([97], s, 0)]⟩ s = 7 := by unfold foE; rw [if_neg (by simp)]
  have hfS : foS ⟨-1, false, 500, [([97], s, 0)]⟩ s = ⟨-1, false, 500, [([97], s, 0)]⟩ := by unfold foS; rw [if_neg (by simp)]
  rw [hfE, hfS]
  refine Q.r ?_; (repeat (intro b1; refine Q.r ?_))
  have hT6 := hT5.mono hl6
  have hE6 := hE5.mono hl6
  refine S.ckm p rfl (Open_spec p ⟨-1, false, 500, [([97], s, 0)]⟩ M6 _ hE6 hT6 (fun n hn => by rw [hnA] at hn; rw [List.mem_singleton.1 hn]; exact .inr (.inr (.inr rfl)))) ?_
  rintro _ _ ⟨M7, hl7, ⟨_, rfl, rfl⟩ | ⟨he, _⟩⟩
  case inr => rw [(opn_none rfl hLA).1] at he; cases he
  rw [(opn_none (d := ⟨-1, false, 500, [([97], s, 0)]⟩) rfl hLA).1, (opn_none (d := ⟨-1, false, 500, [([97], s, 0)]⟩) rfl hLA).2]
  refine Q.r ?_; (repeat (intro b1; refine Q.r ?_))
  refine S.cr rfl (DNew_spec 500 _ (by decide)) ?_
  rintro _ _ ⟨p2, rfl, rfl⟩
  refine Q.r ?_; (repeat (intro b1; refine Q.r ?_))
  refine S.ck p2 rfl (Arm_spec p2 (D0 500) 0 _ (by decide)) ?_
  rintro _ _ ⟨rfl, rfl⟩
  refine Q.r ?_; (repeat (intro b1; refine Q.r ?_))
  have hsp : spendB { D0 500 with left := max 0 (-1) } = false := rfl
  have hwE : wrE { D0 500 with left := max 0 (-1) } (stP s) = 9 := by unfold wrE; rw [if_pos hsp]
  have hfE2 : foE { D0 500 with left := max 0 (-1) } s = 9 := by
    unfold foE
    rw [if_pos (show ({ D0 500 with left := max 0 (-1) } : DK).fs.length = 0 from rfl)]
    unfold layE
    rw [hwE, if_pos (by decide)]
  have hfS2 : foS { D0 500 with left := max 0 (-1) } s = ⟨0, true, 500, []⟩ := by
    unfold foS
    rw [if_pos (show ({ D0 500 with left := max 0 (-1) } : DK).fs.length = 0 from rfl)]
    unfold layS
    rw [hwE, if_pos (by decide)]
    unfold wrS
    rw [hwE, if_neg (by decide)]
    rfl
  refine S.ckm p2 rfl (Format_spec p2 { D0 500 with left := max 0 (-1) } a2 c2 s M7 _ (((hs24.mono hl5).mono hl6).mono hl7) (hT6.mono hl7) hc2 (by omega)) ?_
  rintro _ _ ⟨rfl, M8, hl8, rfl⟩
  rw [hfE2, hfS2]
  refine Q.r ?_; (repeat (intro b1; refine Q.r ?_))
  have hnD : namesD ⟨0, true, 500, []⟩ = [] := names0 _ _ _
  refine S.ckm p2 rfl (Open_spec p2 ⟨0, true, 500, []⟩ M8 _ ((hE6.mono hl7).mono hl8) ((hT6.mono hl7).mono hl8) (fun n hn => by rw [hnD] at hn; cases hn)) ?_
  have hoE : opnE ⟨0, true, 500, []⟩ = 9 := by unfold opnE; rw [if_pos rfl]
  rintro _ _ ⟨M9, hl9, ⟨_, rfl, rfl⟩ | ⟨he, _⟩⟩
  case inr => rw [hoE] at he; cases he
  rw [hoE]
  refine Q.r ?_; (repeat (intro b1; refine Q.r ?_))
  exact N.r1 (RV.tmp rfl RV.nil) (Ent.refl _) rfl
end Go.Proofs.YtkleenllkjodoaaGreatDoor
