/- Rows that need the bytes of what came in. No condition. -/
import Derived.Test.YtieejgbjgcbbjaaSxV
import Derived.HandedShaped
set_option linter.unusedVariables false
set_option linter.unusedSimpArgs false
namespace Go.SX
open Go Go.ChangeShapes Go.WideShapes Go.RowKit
section
variable {H : Type} {enc : TypeId × Value → H} {P : Program} {W : World}
theorem weights_of : ∀ {ts : List TypeId} {vs : List Value} {ds : List (DataW H)} {ps : List MemPlace}, DataW.TrodAll enc P W 0 (fun _ => true) true ts vs ds ps → (DataW.weightsEach P ts ds).all (· ≤ reachBytes) = true →
    ∀ (i : Nat) (t e : TypeId) (v : Value) (a : Option Addr) (l c : Nat), ts[i]? = some t → vs[i]? = some v → P.underlying t = some (.slice e) → v = .slice a l c → l * P.bytesOf e ≤ reachBytes
  | [], [], [], _, _, _, i, t, e, v, a, l, c, h, _, _, _ => by simp at h
  | t :: ts, v :: vs, d :: ds, ps, ⟨p, q, ⟨n, h1⟩, h2, _⟩, hw, i, t', e, v', a, l, c, h, h', hu, hv => by
    unfold DataW.weightsEach at hw
    rw [List.all_append, Bool.and_eq_true] at hw
    cases i with
    | succ i => exact weights_of h2 hw.2 i t' e v' a l c (by simpa using h) (by simpa using h') hu hv
    | zero =>
      simp only [List.getElem?_cons_zero, Option.some.injEq] at h h'
      subst h h' hv
      rcases DataW.trod_slice hu h1 with ⟨e1, _⟩ | ⟨a', len, cap, elems, rest, n', _, e1, e2, _, _, _, hel, _⟩
      · simp [Value.cells] at e1
        obtain ⟨_, rfl, _⟩ := e1
        simp
      · simp [Value.cells] at e1
        obtain ⟨_, rfl, _⟩ := e1
        have hd : d = .slice (elems.map (·.1)) (rest.map (·.1)) := congrArg Prod.fst e2
        rw [hd] at hw
        unfold DataW.weights at hw
        rw [hu] at hw
        simp only [List.all_cons, Bool.and_eq_true, decide_eq_true_eq, List.length_map] at hw
        have h3 := hw.1.1
        rw [hel, Nat.add_mul] at h3
        omega
/-- A row: the law is true, and all that came in reads as it did; the bytes of the slices that came in are known. -/
theorem row_postW {f : FuncId} {F : Func} {s : ChangeSpec} {tb : TypeId} {args : Array Value} {ds gs : List (DataW H)} {before : List MemPlace} {handsOn again : Bool} (K : Kids P (· < P.types.size)) (hz : ∀ t e, t < P.types.size → P.underlying t = some (.slice e) → 0 < P.cellsOf e)
    (hT : (F.params.toList.all fun t => decide (t < P.types.size)) = true) (hvs : s.vars = []) (hfn : ∀ ds : List (DataW H), ds.length = F.params.toList.length → s.fn H ds = { results := [.lit (.bool true)], args := ds }) (hrt : F.resultTypes = #[tb]) (htb : P.underlying tb = some .bool)
    {base : Nat} (hval : ∀ (j : Nat) t v, F.params[j]? = some t → args[j]? = some v → Value.okWide P W .any base t v)
    (hW : DataW.Whole enc P F.params.toList s.vars false W args.toList ds gs before) (hwt : (DataW.weightsEach P (F.params.toList ++ s.plain.varTypes P) (ds ++ gs)).all (· ≤ reachBytes) = true)
    (hw : (∀ (i : Nat) (t : TypeId) (v : Value), F.params.toList[i]? = some t → args.toList[i]? = some v → Arg enc P W t v) →
      (∀ (i : Nat) (t e : TypeId) (v : Value) (a : Option Addr) (l c : Nat), F.params.toList[i]? = some t → args.toList[i]? = some v → P.underlying t = some (.slice e) → v = .slice a l c → l * P.bytesOf e ≤ reachBytes) →
      args.toList.length = F.params.toList.length → CallsS P f args.toList [roM (all0 W)] (fun v _ => v = .bool true)) :
    Calls P f args W fun e W' => ∃ v, e = .returned v ∧ s.post enc P F false true handsOn again W args v W' := by
  have hW' := hW
  obtain ⟨p, q, hA, hV, _, _, _⟩ := hW'
  rw [hvs] at hV
  have hg : gs = [] := by
    cases gs with
    | nil => rfl
    | cons g gs => exact hV.elim
  have hpv : s.plain.varTypes P = [] := by
    have hv2 : s.plain.vars = [] := hvs
    unfold DataSpec.varTypes
    rw [hv2]; rfl
  rw [hpv, hg, List.append_nil, List.append_nil] at hwt
  exact row_post K hz hT hvs hfn hrt htb hval hW (fun ha hl => hw ha (fun i t e v a l c => weights_of hA hwt i t e v a l c) hl)
end
end Go.SX
