/- From a walk to a row: what was there before the call stays as it was. No condition. -/
import Derived.Test.YtjidejcehmamkaaDoorSxM
import Derived.ChangeSame
import Derived.RowKit
import Derived.OpenShut
set_option linter.unusedVariables false
set_option linter.unusedSimpArgs false
namespace Go.SX
open Go Go.ChangeShapes Go.RowKit
def isExt (g0 : Ext) : HP := fun g _ => g = g0
def all0 (W : World) : Nat → Option Obj := fun b => W.heap[b]?
theorem St.start (W : World) : St W [roM (all0 W), isExt (ext W)] := by
  refine ⟨fun b => (W.heap[b]?).map (false, ·), fun b p o e => ?_, fun b => (W.heap[b]?).map (false, ·), (fun _ => none : Nat → Option (Bool × Obj)), fun b p o q o' _ e => by simp at e, by funext b; simp [Hp.add], fun b o e => ?_,
    (fun _ => none : Nat → Option (Bool × Obj)), (fun _ => none : Nat → Option (Bool × Obj)), fun b p o q o' _ e => by simp at e, by funext b; simp [Hp.add], rfl, trivial⟩
  · cases h : W.heap[b]? with
    | none => simp [h] at e
    | some x => simp [h] at e; rw [e.2]
  · simp [all0] at e; simp [e]
def Kept (W W' : World) : Prop := W'.os = W.os ∧ W'.output = W.output ∧ ∀ (i : Nat) (o : Obj), W.heap[i]? = some o → W'.heap[i]? = some o
theorem CallsS.kept {P : Program} {g : FuncId} {args : List Value} {W : World} {v : Value} (h : CallsS P g args [roM (all0 W)] (fun r _ => r = v)) :
    Calls P g args.toArray W fun e W' => e = .returned v ∧ Kept W W' := by
  have h0 : St W ([roM (all0 W)] ++ [roM (all0 W), isExt (ext W)]) := Ent.roM_dup (L := []) W [isExt (ext W)] (St.start W)
  refine (h _ W h0).mono fun e W' ⟨v', L', he, hs, hv⟩ => ?_
  subst hv
  have h1 := St.drop_left hs
  have h2 : ext W' = ext W := by
    obtain ⟨h, f, a⟩ := h1.tail.read_cons; exact a
  exact ⟨he, congrArg Prod.fst h2, congrArg Prod.snd h2, fun i o e => St.roM_read h1 e⟩
theorem Kept.but {W W' : World} (h : Kept W W') (may : MemPlace → Prop) : W.keptBut W' may := by
  refine ⟨h.1, h.2.1, fun i hi => ?_⟩
  have e1 : W.heap[i]? = some W.heap[i] := Array.getElem?_eq_getElem hi
  have e2 := h.2.2 i _ e1
  rw [e1, e2]
  cases W.heap[i] with
  | cells c t fr => exact ⟨rfl, rfl, rfl, fun _ _ => rfl⟩
  | map es cl => exact .inr ⟨rfl, rfl⟩
  | _ => rfl
theorem post_kept {H : Type} {enc : TypeId × Value → H} {P : Program} {f : Func} {s : ChangeSpec} {apart fresh handsOn again : Bool} {W W' : World} {args : Array Value} {v : Value} {ds gs : List (DataW H)} {before pa pv : List MemPlace}
    (hW : DataW.Whole enc P f.params.toList s.vars apart W args.toList ds gs before)
    (hres : ∀ (b : Nat) (sp : Nat → Bool) (hd : Bool), DataW.TrodAll enc P W' b sp hd f.resultTypes.toList (v.resultList f.resultTypes.size) (s.fn H (ds ++ gs)).results [])
    (hargs : ∀ sp : Nat → Bool, (∀ p ∈ before, sp p.block = true) → DataW.TrodAll enc P W' 0 sp true f.params.toList args.toList (s.fn H (ds ++ gs)).args pa)
    (hvars : ∀ sp : Nat → Bool, (∀ p ∈ before, sp p.block = true) → DataW.TrodVars enc P W' sp s.vars (s.fn H (ds ++ gs)).vars pv)
    (hps : before = pa ++ pv) (hk : Kept W W')
    (hok : ∀ (j : Nat) (t : TypeId) (r : Value), f.resultTypes[j]? = some t → (v.resultList f.resultTypes.size)[j]? = some r → Value.okWide P W' .any 0 t r) :
    s.post enc P f apart fresh handsOn again W args v W' := by
  have hold : ∀ p ∈ before, (fun b => decide (b < W.heap.size)) p.block = true := fun p hp => by simpa using hW.lt p hp
  have hlt := hW.lt
  refine ⟨ds, gs, before, [], pa, pv, hW, hres _ _ _, hargs _ hold, hvars _ hold, World.keptBut_mono (fun p hp => ⟨hp, ?_⟩) (hk.but (· ∈ before)), fun _ => ?_⟩
  · rw [hps, List.mem_append] at hp
    exact Or.inr hp
  · obtain ⟨_, _, _, _, _, hz, hn⟩ := hW
    refine ⟨hok, _, _, ([] ++ pa) ++ pv, ⟨[] ++ pa, pv, trodAll_append (hargs _ (fun _ _ => rfl)) (hres _ _ _), hvars _ (fun _ _ => rfl), rfl, ?_, ?_⟩, ?_⟩
    · intro b off hp
      have hb : MemPlace.cell b off ∈ before := by rw [hps]; simpa using hp
      have hl : b < W.heap.size := hlt _ hb
      have e1 : W.heap[b]? = some W.heap[b] := Array.getElem?_eq_getElem hl
      have e2 := hk.2.2 b _ e1
      have := hz b off hb
      simp only [World.frozen?, e1, e2] at this ⊢
      exact this
    · intro ha
      have := hn ha
      rw [hps] at this
      simpa using this
    · intro p hp _
      rw [hps]
      simpa using hp
end Go.SX
