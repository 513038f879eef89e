/- The row of VaultLoads: from the walk to the statement. -/
import Derived.Test.YtieejgbjgcbbjaaGreatLdD
import Derived.Test.YtieejgbjgcbbjaaGreatRowVE
set_option linter.unusedVariables false
set_option linter.unusedSimpArgs false
namespace Go.Proofs.YtieejgbjgcbbjaaGreat
open Go Go.SX Go.ChangeShapes Go.WideShapes Go.ChangeAt Go.RowKit
set_option maxRecDepth 100000 in
theorem Rd.ver {H : Type} {enc : TypeId × Value → H} {W : World} {cs : List Value} (h : Rd enc Tryz.prog W 43 cs) : ∃ o : OV, cs = o.cells ∧ (SlM (all0 W) o.a o.vec.length 1 (o.vec.map I32) ∧ o.vec.length ≤ o.c ∧ o.vec.length ≤ 9223372036854775807 ∧ 0 ≤ o.id ∧ o.id ≤ 18446744073709551615) := by
  obtain ⟨hl, hf⟩ := h.fields Tryz.underlying43
  obtain ⟨x, h0, hx⟩ := Rd.u64 (hf 0 _ rfl)
  obtain ⟨a, c, xs, h1, h2, h3, h4⟩ := Rd.vec (hf 1 _ rfl)
  have hl' : cs.length = 2 := hl.trans (by kernel_rfl)
  match cs, hl' with
  | [u, v], _ =>
    have h0' : [u] = [Value.int .u64 x] := h0
    have h1' : [v] = [Value.slice a xs.length c] := h1
    simp only [List.cons.injEq, and_true] at h0' h1'
    subst h0' h1'
    exact ⟨⟨x, a, c, xs⟩, rfl, h4, h2, h3, hx⟩
theorem Rd.vers {H : Type} {enc : TypeId × Value → H} {W : World} {cs : List Value} (h : Rd enc Tryz.prog W 35 cs) : ∃ (a : Option Addr) (c : Nat) (vs : List OV), cs = [.slice a vs.length c] ∧ (SlM (all0 W) a vs.length 2 (vs.flatMap OV.cells) ∧ okR (all0 W) vs) ∧ vs.length ≤ 9223372036854775807 ∧ ∀ o ∈ vs, o.vec.length ≤ o.c := by
  obtain ⟨a, c, ls, h1, h1c, h1m, h1s, h1q⟩ := Rd.list (fun r hr => Rd.ver hr) h (sz := 2) Tryz.underlying35 (by kernel_rfl) (by decide)
  have hmx : maxLen = 9223372036854775807 := by decide
  rw [hmx] at h1m
  exact ⟨a, c, ls, h1, ⟨h1s, fun u hu => (h1q u hu).1⟩, Nat.le_trans h1c h1m, fun u hu => (h1q u hu).2.1⟩
set_option maxRecDepth 100000 in
theorem Rd.entry {H : Type} {enc : TypeId × Value → H} {W : World} {cs : List Value} (h : Rd enc Tryz.prog W 37 cs) : ∃ e : EV, cs = e.cells ∧ EOK (all0 W) e := by
  obtain ⟨hl, hf⟩ := h.fields Tryz.underlying37
  obtain ⟨x, h0, hx⟩ := Rd.u64 (hf 0 _ rfl)
  obtain ⟨a, c, vs, h1, h2, h3, h4⟩ := Rd.vers (hf 1 _ rfl)
  have hl' : cs.length = 2 := hl.trans (by kernel_rfl)
  match cs, hl' with
  | [u, v], _ =>
    have h0' : [u] = [Value.int .u64 x] := h0
    have h1' : [v] = [Value.slice a vs.length c] := h1
    simp only [List.cons.injEq, and_true] at h0' h1'
    subst h0' h1'
    exact ⟨⟨x, a, c, vs⟩, rfl, h2, h3, h4⟩
theorem VaultLoadsArgs {H : Type} {enc : TypeId × Value → H} {W : World} (args : List Value) (ha : ∀ (i : Nat) (t : TypeId) (v : Value), Tryz.f3.params.toList[i]? = some t → args[i]? = some v → Arg enc Tryz.prog W t v) (hl : args.length = 4) :
    CallsS Tryz.prog 3 args [roM (all0 W)] (fun v _ => v = .bool true) := by
  match args, hl with
  | [v0, v1, v2, v3], _ =>
    obtain ⟨x, rfl, hx⟩ := (ha 0 _ v0 rfl rfl).int Tryz.underlying5
    obtain ⟨y, rfl, hy⟩ := (ha 1 _ v1 rfl rfl).int Tryz.underlying22
    obtain ⟨a, c, es, rfl, h1, h2, h3, h4⟩ := (ha 2 _ v2 rfl rfl).list (fun r hr => Rd.entry hr) (sz := 2) Tryz.underlying23 (by kernel_rfl) (by decide)
    obtain ⟨a', c', vs, rfl, g1, g2, g3, g4⟩ := (ha 3 _ v3 rfl rfl).list (fun r hr => Rd.dv2 hr) (sz := 8) Tryz.underlying24 (by kernel_rfl) (by decide)
    have hb : 0 ≤ x ∧ x ≤ 255 := bounds_u8 hx
    exact VaultLoads_spec x y a c es a' c' vs _ h3 h4 (Nat.le_trans h1 h2) hb.1 hb.2 g3 g4 (Nat.le_trans g1 g2)
theorem VaultLoadsFn {H : Type} (ds : List (DataW H)) (h : ds.length = 4) : Rows.vaultLoadsSpec.fn H ds = { results := [.lit (.bool true)], args := ds } := by
  match ds, h with
  | [v0, v1, v2, v3], _ => rfl
set_option maxHeartbeats 1000000 in
set_option maxRecDepth 100000 in
theorem VaultLoadsLifted (os : Os) (started : os.Started) (H : Type) (enc : TypeId × Value → H) :
    ReturnsInHanded {} Tryz.checked os 3 .any (Rows.vaultLoadsSpec.pre6 enc Tryz.prog Tryz.f3 Rows.vaultLoadsRow.domain false) (Rows.vaultLoadsSpec.post enc Tryz.prog Tryz.f3 false true false false) := by
  refine returnsInHanded_of_change (C := Tryz.checked) own started (by kernel_rfl) Tryz.func3 (ChangeSpec.witness6 (enc := enc) (C := Tryz.checked) false ⟨#[], #[.int .u8 0, .int .u64 0, .slice none 0 0, .slice none 0 0], []⟩ 8 (by kernel_rfl) (by kernel_rfl) (by kernel_rfl) (by kernel_rfl)) ?_
  intro W base args ds gs before hval hW _ _
  exact row_post (f := 3) (F := Tryz.f3) (s := Rows.vaultLoadsSpec) (kids_rows (by kernel_rfl) (by kernel_rfl)) (slices_full_of Tryz.prog (by kernel_rfl)) (by kernel_rfl) rfl (fun ds h => VaultLoadsFn ds h) rfl Tryz.underlying4 hval hW (fun ha hl => VaultLoadsArgs args.toList ha hl)
theorem VaultLoadsOver : Rows.vaultLoadsRow.holds Tryz.pinned (OpenSpec.ofChange Rows.vaultLoadsSpec) :=
  OpenClaim.holds_of_wide 3 Tryz.f3 rfl rfl rfl rfl rfl rfl rfl ⟨rfl, rfl, rfl, rfl, rfl⟩ rfl rfl rfl rfl rfl (by kernel_rfl) Tryz.func3 (by kernel_rfl)
    (of_decide_eq_true (by kernel_rfl)) (by unfold Func.isWrapper; first | (rw [if_pos (by decide +kernel)]; kernel_rfl) | (rw [if_neg (by decide +kernel)]; exact ⟨rfl, rfl⟩))
    (fun os started H enc _ => VaultLoadsLifted os started H enc)
theorem vaultLoads_holds : Rows.VaultLoadsSaid := VaultLoadsOver
#print axioms vaultLoads_holds
end Go.Proofs.YtieejgbjgcbbjaaGreat
