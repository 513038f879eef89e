/- A constant string turned into bytes: the row is marked. From a walk to a row: what was there before the call stays as it was. What was read before the call reads alike behind it, if all the old blocks stayed. Slices cut in front; roM's of several functions. Maps that are owned. Cuts behind blocks. Steps with their searches. Owned slices found by their address, given up for writing. Stores into owned slices; several owned slices together. Function values; maps that are ranged over. Rounds of a range over a function; slices.AppendSeq. No condition. -/
import Derived.ChangeSame
import Derived.RowKit
import Derived.OpenShut
import Derived.ReadAgain
import Derived.MapKept
import Derived.KernelRfl
import Derived.Maps.RangeRun
import Derived.RangeFuncLeaves
import Derived.RangeFuncSeq
import Derived.Test.YtkleenllkjodoaaGreatDoorPk01
set_option linter.unusedVariables false
set_option linter.unusedSimpArgs false
set_option linter.unusedSectionVars false
namespace Go.SX
open Go
section
variable {P : Program} {n : Nat} {ops rest : List Oper} {Q : Post} {f : Env} {L : List HP}
variable {d : Tmp} {ty : TypeId} {pos : String} {af : Array Edge}
theorem freeze_heap {w : World} {b k : Nat} {t : TypeId} {cs : Array Value} (h : w.heap[b]? = some (.cells cs t (0, 0))) :
    (w.freeze ⟨b, k, none⟩ 1).heap[b]? = some (.cells cs t (k, k + 1)) ∧ ∀ j, j ≠ b → (w.freeze ⟨b, k, none⟩ 1).heap[j]? = w.heap[j]? := by
  constructor
  · simp [World.freeze, Array.getElem?_modify, h]
  · intro j hj
    simp [World.freeze, Array.getElem?_modify, Ne.symm hj]
theorem S.cvm {x : Operand} {t e t0 : TypeId} {b m c : Nat} {l : List Value} {L0 : List HP} [h : SlTy P t e] [h2 : IntTy P e .u8] (hx : ev f x = some (.slice (some ⟨b, 0, none⟩) m c)) [hf : FindB b L (cl l t0)] [hp : Pick (pt b (cl l t0)) L L0] (hl : l.length = m)
    (hk : ∀ M, SlM M (some ⟨b, 0, none⟩) m 1 l → opsS P n ops rest Q (upd f d (.slice (some ⟨b, 0, none⟩) m c)) (roM M :: L0)) :
    opsS P n ops (⟨some d, .convert t t x, ty, pos, af, none⟩ :: rest) Q f L := by
  refine opsS_value (R := fun v L' => v = .slice (some ⟨b, 0, none⟩) m c ∧ ∃ M, SlM M (some ⟨b, 0, none⟩) m 1 l ∧ L' = roM M :: L0) (fun F a w s t0' => ?_) (by rintro _ _ ⟨rfl, M, hM, rfl⟩; exact hk M hM)
  have hb := hf.at_ w F t0'
  have hfz := freeze_heap (k := l.length) hb
  have H1 := St.pt_write (w' := w.freeze ⟨b, l.length, none⟩ 1) (hp.ent w F t0') hfz.1 hfz.2
  have H2 := Ent.roM_one (L := L0) (w.freeze ⟨b, l.length, none⟩ 1) F H1
  refine ⟨_, w.freeze ⟨b, l.length, none⟩ 1, _, ?_, H2, rfl, _, ?_, rfl⟩
  · have hsh : w.shape? b = some (t0, l.length) := by
      unfold World.shape?; rw [hb]; simp [cl]
    simp [execOp, s.eval hx, convert, h.und, h2.und, markStringish, hsh]
  · exact ⟨by omega, .inr ⟨b, 0, l.toArray, t0, _, rfl, by simp [oneM]; rfl, fun j v e => by simpa using e⟩⟩
def wantU (ops : List Oper) (f : Env) (g : Nat × Bool) : Bool :=
  match (ops[g.1]?).bind (·.dst) with
  | some d => match f d with
    | some (.tuple _) => true
    | _ => false
  | none => false
theorem wanted_U {a : Act} {g : Nat × Bool} (s : Sim n a f) (h : wantU ops f g = true) (o : Oper) (ho : o.guard = some g) :
    Region.wanted o (yielded ops.toArray a.tmps) = false := by
  simp only [wantU] at h
  cases hd : (ops[g.1]?).bind (·.dst) with
  | none => rw [hd] at h; simp at h
  | some d =>
    rw [hd] at h
    simp only at h
    cases hf : f d with
    | none => rw [hf] at h; simp at h
    | some v =>
      rw [hf] at h
      cases v <;> simp at h
      have := s.at_ d _ hf
      have hy : yielded ops.toArray a.tmps g.1 = none := by
        rw [Array.getD_eq_getD_getElem?] at this
        cases h2 : a.tmps[d]? with
        | none => simp [yielded, hd, h2]
        | some u => rw [h2] at this; simp at this; simp [yielded, hd, h2, this]
      simp only [Region.wanted, ho]
      rw [hy]
      rfl
theorem Y.gskipU {A : List HP} {dd : Option Tmp} {op : Op} {g : Nat × Bool} (hg : wantU ops f g = true) : YieldS P n ops ⟨dd, op, ty, pos, af, some g⟩ f A undef := fun a s =>
  .inr ⟨wanted_U s hg ⟨dd, op, ty, pos, af, some g⟩ rfl, rfl⟩
end
end Go.SX
namespace Go.SX
open Go Go.ChangeShapes Go.RowKit
def isExt (g0 : Ext) : HP := fun g _ => g = g0
def all0 (W : World) : Nat → Option Obj := fun b => W.heap[b]?
theorem St.start (W : World) : St W [roM (all0 W), isExt (ext W)] := by
  refine ⟨fun b => (W.heap[b]?).map (false, ·), fun b p o e => ?_, fun b => (W.heap[b]?).map (false, ·), (fun _ => none : Nat → Option (Bool × Obj)), fun b p o q o' _ e => by simp at e, by funext b; simp [Hp.add], fun b o e => ?_,
    (fun _ => none : Nat → Option (Bool × Obj)), (fun _ => none : Nat → Option (Bool × Obj)), fun b p o q o' _ e => by simp at e, by funext b; simp [Hp.add], rfl, trivial⟩
  · cases h : W.heap[b]? with
    | none => simp [h] at e
    | some x => simp [h] at e; rw [e.2]
  · simp [all0] at e; simp [e]
def Kept (W W' : World) : Prop := W'.os = W.os ∧ W'.output = W.output ∧ ∀ (i : Nat) (o : Obj), W.heap[i]? = some o → W'.heap[i]? = some o
theorem CallsS.kept {P : Program} {g : FuncId} {args : List Value} {W : World} {v : Value} (h : CallsS P g args [roM (all0 W)] (fun r _ => r = v)) :
    Calls P g args.toArray W fun e W' => e = .returned v ∧ Kept W W' := by
  have h0 : St W ([roM (all0 W)] ++ [roM (all0 W), isExt (ext W)]) := Ent.roM_dup (L := []) W [isExt (ext W)] (St.start W)
  refine (h _ W h0).mono fun e W' ⟨v', L', he, hs, hv⟩ => ?_
  subst hv
  have h1 := St.drop_left hs
  have h2 : ext W' = ext W := by
    obtain ⟨h, f, a⟩ := h1.tail.read_cons; exact a
  exact ⟨he, congrArg Prod.fst h2, congrArg Prod.snd h2, fun i o e => St.roM_read h1 e⟩
theorem Kept.but {W W' : World} (h : Kept W W') (may : MemPlace → Prop) : W.keptBut W' may := by
  refine ⟨h.1, h.2.1, fun i hi => ?_⟩
  have e1 : W.heap[i]? = some W.heap[i] := Array.getElem?_eq_getElem hi
  have e2 := h.2.2 i _ e1
  rw [e1, e2]
  cases W.heap[i] with
  | cells c t fr => exact ⟨rfl, rfl, rfl, fun _ _ => rfl⟩
  | map es cl => exact .inr ⟨rfl, rfl⟩
  | _ => rfl
theorem post_kept {H : Type} {enc : TypeId × Value → H} {P : Program} {f : Func} {s : ChangeSpec} {apart fresh handsOn again : Bool} {W W' : World} {args : Array Value} {v : Value} {ds gs : List (DataW H)} {before pa pv : List MemPlace}
    (hW : DataW.Whole enc P f.params.toList s.vars apart W args.toList ds gs before)
    (hres : ∀ (b : Nat) (sp : Nat → Bool) (hd : Bool), DataW.TrodAll enc P W' b sp hd f.resultTypes.toList (v.resultList f.resultTypes.size) (s.fn H (ds ++ gs)).results [])
    (hargs : ∀ sp : Nat → Bool, (∀ p ∈ before, sp p.block = true) → DataW.TrodAll enc P W' 0 sp true f.params.toList args.toList (s.fn H (ds ++ gs)).args pa)
    (hvars : ∀ sp : Nat → Bool, (∀ p ∈ before, sp p.block = true) → DataW.TrodVars enc P W' sp s.vars (s.fn H (ds ++ gs)).vars pv)
    (hps : before = pa ++ pv) (hk : Kept W W')
    (hok : ∀ (j : Nat) (t : TypeId) (r : Value), f.resultTypes[j]? = some t → (v.resultList f.resultTypes.size)[j]? = some r → Value.okWide P W' .any 0 t r) :
    s.post enc P f apart fresh handsOn again W args v W' := by
  have hold : ∀ p ∈ before, (fun b => decide (b < W.heap.size)) p.block = true := fun p hp => by simpa using hW.lt p hp
  have hlt := hW.lt
  refine ⟨ds, gs, before, [], pa, pv, hW, hres _ _ _, hargs _ hold, hvars _ hold, World.keptBut_mono (fun p hp => ⟨hp, ?_⟩) (hk.but (· ∈ before)), fun _ => ?_⟩
  · rw [hps, List.mem_append] at hp
    exact Or.inr hp
  · obtain ⟨_, _, _, _, _, hz, hn⟩ := hW
    refine ⟨hok, _, _, ([] ++ pa) ++ pv, ⟨[] ++ pa, pv, trodAll_append (hargs _ (fun _ _ => rfl)) (hres _ _ _), hvars _ (fun _ _ => rfl), rfl, ?_, ?_⟩, ?_⟩
    · intro b off hp
      have hb : MemPlace.cell b off ∈ before := by rw [hps]; simpa using hp
      have hl : b < W.heap.size := hlt _ hb
      have e1 : W.heap[b]? = some W.heap[b] := Array.getElem?_eq_getElem hl
      have e2 := hk.2.2 b _ e1
      have := hz b off hb
      simp only [World.frozen?, e1, e2] at this ⊢
      exact this
    · intro ha
      have := hn ha
      rw [hps] at this
      simpa using this
    · intro p hp _
      rw [hps]
      simpa using hp
end Go.SX
namespace Go.SX
open Go Go.ChangeShapes Go.RowKit
theorem Kept.cell {W W' : World} (hk : Kept W W') {a : Addr} {v : Value} (h : W.cell? a = some v) : W'.cell? a = some v := by
  unfold World.cell? at h ⊢
  cases hb : W.heap[a.block]? with
  | none => rw [hb] at h; simp at h
  | some o => rw [hk.2.2 _ _ hb]; rw [hb] at h; exact h
theorem Kept.cells {W W' : World} (hk : Kept W W') {base : Nat} {a : Addr} {n : Nat} {cs : List Value} (h : W.cells? base a n = some cs) : W'.cells? base a n = some cs := by
  unfold World.cells? at h ⊢
  split at h
  · rename_i hb
    rw [if_pos hb]
    exact mapM_carry h (fun i y _ _ e => hk.cell e)
  · cases h
section
variable {H : Type} {enc : TypeId × Value → H} {P : Program} {W W' : World} {base : Nat} {spare : Nat → Bool} {held : Bool}
theorem trodStep_kept (hk : Kept W W') {r r' : TypeId → List Value → Option (DataW H × List MemPlace)}
    (hr : ∀ t cs x, r t cs = some x → r' t cs = some x) {t : TypeId} {cs : List Value} {x : DataW H × List MemPlace}
    (h : DataW.trodStep enc P W base spare held r t cs = some x) : DataW.trodStep enc P W' base spare held r' t cs = some x := by
  unfold DataW.trodStep at h ⊢
  split at h
  case h_1 => exact h
  case h_2 => exact h
  case h_3 => exact h
  case h_4 => exact h
  case h_5 => exact h
  case h_6 e a _ =>
    simp only [Option.map_eq_some_iff, Option.bind_eq_some_iff] at h ⊢
    obtain ⟨y, ⟨cs', hc, hy⟩, rfl⟩ := h
    exact ⟨y, ⟨cs', hk.cells hc, hr _ _ _ hy⟩, rfl⟩
  case h_7 => exact h
  case h_8 e a len cap _ =>
    simp only at h ⊢
    split at h
    · rename_i hc
      rw [if_pos hc]
      simp only [Option.map_eq_some_iff, Option.bind_eq_some_iff] at h ⊢
      obtain ⟨elems, he, rest, hrest, rfl⟩ := h
      have one : ∀ (i : Nat) (y : DataW H × List MemPlace), (W.cells? base (a.add (i * P.cellsOf e)) (P.cellsOf e)).bind (r e) = some y → (W'.cells? base (a.add (i * P.cellsOf e)) (P.cellsOf e)).bind (r' e) = some y := by
        intro i y hv
        simp only [Option.bind_eq_some_iff] at hv ⊢
        obtain ⟨cs', hc', hy'⟩ := hv
        exact ⟨cs', hk.cells hc', hr _ _ _ hy'⟩
      refine ⟨elems, mapM_carry he (fun i y _ _ hv => one i y hv), rest, ?_, rfl⟩
      split at hrest
      · rename_i hs
        rw [if_pos hs]
        exact mapM_carry hrest (fun j y _ _ hv => one (len + j) y hv)
      · rename_i hs
        rw [if_neg hs]
        exact hrest
    · cases h
  case h_9 =>
    split at h
    · rename_i hc
      rw [if_pos hc]
      simp only [Option.map_eq_some_iff] at h ⊢
      obtain ⟨xs, hx, rfl⟩ := h
      exact ⟨xs, mapM_carry hx (fun f y _ _ hv => hr _ _ _ hv), rfl⟩
    · cases h
  case h_10 =>
    split at h
    · rename_i hc
      rw [if_pos hc]
      simp only [Option.map_eq_some_iff] at h ⊢
      obtain ⟨xs, hx, rfl⟩ := h
      exact ⟨xs, mapM_carry hx (fun f y _ _ hv => hr _ _ _ hv), rfl⟩
    · cases h
  case h_11 => exact h
  case h_12 =>
    split at h
    · exact h
    · simp only [Option.map_eq_some_iff] at h ⊢
      obtain ⟨q, hq, rfl⟩ := h
      exact ⟨q, hr _ _ _ hq, rfl⟩
    · cases h
  case h_13 => exact h
  case h_14 k e b _ =>
    split at h
    · rename_i es clock hb
      rw [hk.2.2 _ _ hb]
      split at h
      · rename_i hc
        simp only [Option.bind_eq_some_iff] at h
        obtain ⟨entries, he, hd⟩ := h
        split at hd
        · rename_i hris
          have hx := Option.some.inj hd
          subst hx
          simp only [if_pos hc, Option.bind_eq_some_iff]
          refine ⟨entries, mapM_carry he (fun x y _ hy hv => ?_), by simp [hris]⟩
          simp only [Option.bind_eq_some_iff] at hv ⊢
          obtain ⟨key, hk2, hz⟩ := hv
          refine ⟨key, hk2, ?_⟩
          split at hz
          · rename_i hf
            rw [if_pos hf]
            simp only [Option.map_eq_some_iff] at hz ⊢
            obtain ⟨q, hq, rfl⟩ := hz
            exact ⟨q, hr _ _ _ hq, rfl⟩
          · cases hz
        · cases hd
      · cases h
    · cases h
  case h_15 => exact h
  case h_16 => exact h
  case h_17 => exact h
  case h_18 => exact h
  case h_19 => exact h
  case h_20 => exact h
  case h_21 => cases h
theorem trod_kept (hk : Kept W W') : ∀ (n : Nat) (t : TypeId) (cs : List Value) (x : DataW H × List MemPlace),
    DataW.trod enc P W base spare held n t cs = some x → DataW.trod enc P W' base spare held n t cs = some x := by
  intro n
  induction n with
  | zero => intro t cs x h; simp [DataW.trod] at h
  | succ n ih =>
    intro t cs x h
    rw [DataW.trod_step] at h ⊢
    exact trodStep_kept hk ih h
theorem trodAll_kept (hk : Kept W W') : ∀ {ts : List TypeId} {vs : List Value} {ds : List (DataW H)} {ps : List MemPlace}, DataW.TrodAll enc P W base spare held ts vs ds ps → DataW.TrodAll enc P W' base spare held ts vs ds ps
  | [], [], [], _, h => h
  | _ :: _, _ :: _, _ :: _, _, ⟨p, q, ⟨n, h1⟩, h2, e⟩ => ⟨p, q, ⟨n, trod_kept hk n _ _ _ h1⟩, trodAll_kept hk h2, e⟩
end
end Go.SX
namespace Go.SX
open Go
theorem mem_get {α : Type} {l : List α} {k : Nat} (h : k < l.length) : ∃ x, l[k]? = some x := ⟨l[k], List.getElem?_eq_getElem h⟩
theorem take_snoc {α : Type} {l : List α} {k : Nat} {x : α} (h : l[k]? = some x) : l.take (k + 1) = l.take k ++ [x] := by
  rw [List.take_add_one, h]; rfl
theorem len_snoc {α : Type} (l : List α) (x : α) : (l ++ [x]).length = l.length + 1 := by simp
theorem flat_snoc {α β : Type} (l : List α) (x : α) (g : α → List β) : (l ++ [x]).flatMap g = l.flatMap g ++ g x := by simp
theorem RdC.take {L : List HP} {b o k : Nat} {cs : List Value} (h : RdC L b o cs) : RdC L b o (cs.take k) := h.part (k := 0) fun j v e => by
  rw [Nat.zero_add]
  by_cases hj : j < k
  · rwa [List.getElem?_take_of_lt hj] at e
  · rw [List.getElem?_take_eq_none (by omega)] at e; cases e
theorem RdS.take {L : List HP} {a : Option Addr} {m sz k : Nat} {cs : List Value} (h : RdS L a m sz cs) (hk : k ≤ m) : RdS L a k sz (cs.take (k * sz)) := by
  refine ⟨by rw [List.length_take, h.1]; exact Nat.min_eq_left (Nat.mul_le_mul_right _ hk), ?_⟩
  rcases h.2 with h0 | ⟨b, o, e, r⟩
  · exact .inl (by omega)
  · exact .inr ⟨b, o, e, r.take⟩
def CM (M : Nat → Option Obj) (b o : Nat) (cs : List Value) : Prop := ∀ j v, cs[j]? = some v → ∃ l t fz, M b = some (.cells l t fz) ∧ l[o + j]? = some v
theorem CM.mono {M M' : Nat → Option Obj} {b o : Nat} {cs : List Value} (h : CM M b o cs) (hl : leM M M') : CM M' b o cs := fun j v e => let ⟨l, t, fz, h1, h2⟩ := h j v e; ⟨l, t, fz, hl _ _ h1, h2⟩
theorem CM.rd {M : Nat → Option Obj} {b o : Nat} {cs : List Value} (h : CM M b o cs) {L : List HP} [hM : HasM M L] : RdC L b o cs := fun w F H j v e => by
  obtain ⟨l, t, fz, h1, h2⟩ := h j v e
  have := hM.at_ w F H b _ h1
  simp [World.cell?, this, h2]
theorem CM.at {M : Nat → Option Obj} {b o j : Nat} {v : Value} {cs : List Value} (h : CM M b o cs) (hj : cs[j]? = some v) : CM M b (o + j) [v] := fun i u e => by
  cases i with
  | zero => simp at e; subst e; simpa using h j v hj
  | succ i => simp at e
theorem SlM.cm {α : Type} {g : α → List Value} {sz : Nat} (hg : ∀ x, (g x).length = sz) {M : Nat → Option Obj} {a : Option Addr} {m : Nat} {l : List α} {k : Nat} {x : α} (h : SlM M a m sz (l.flatMap g)) (hk : l[k]? = some x) (hm : m = l.length) : ∃ b o, a = some ⟨b, o, none⟩ ∧ CM M b (o + k * sz) (g x) := by
  have hlt : k < l.length := (List.getElem?_eq_some_iff.1 hk).1
  rcases h.2 with h0 | ⟨b, o, l', t, fz, e, e1, e2⟩
  · omega
  · refine ⟨b, o, e, fun j v hv => ⟨l', t, fz, e1, ?_⟩⟩
    rw [Nat.add_assoc]
    exact e2 _ _ (flat_get hg l k j x v hk hv)
theorem SlM.cm1 {α : Type} {g : α → Value} {M : Nat → Option Obj} {a : Option Addr} {m : Nat} {l : List α} {k : Nat} {x : α} (h : SlM M a m 1 (l.map g)) (hk : l[k]? = some x) (hm : m = l.length) : ∃ b o, a = some ⟨b, o, none⟩ ∧ CM M b (o + k * 1) [g x] := by
  have e : l.map g = l.flatMap fun x => [g x] := by
    clear h hk hm
    induction l with
    | nil => rfl
    | cons y l ih => rw [List.map_cons, ih]; rfl
  rw [e] at h
  exact SlM.cm (g := fun x => [g x]) (sz := 1) (fun _ => rfl) h hk hm
section
variable {P : Program} {n : Nat} {ops : List Oper} {f : Env} {A : List HP} {d : Tmp} {ty : TypeId} {pos : String} {af : Array Edge}
theorem Y.ldM {x : Operand} {t : TypeId} {sz bts : Nat} {zs : List Value} {b o j : Nat} {v : Value} {M : Nat → Option Obj} {cs : List Value} [h : Ty P t false sz zs bts] [hM : HasM M A] (hx : ev f x = some (.pointer (some ⟨b, o + j, none⟩))) (hr : CM M b o cs) (hj : cs[j]? = some v) : YieldS P n ops ⟨some d, .load t x, ty, pos, af, none⟩ f A v :=
  Y.ldR hx (hr.at hj).rd
theorem Y.ldM0 {x : Operand} {t : TypeId} {sz bts : Nat} {zs : List Value} {b o : Nat} {v : Value} {M : Nat → Option Obj} [h : Ty P t false sz zs bts] [hM : HasM M A] (hx : ev f x = some (.pointer (some ⟨b, o, none⟩))) (hr : CM M b o [v]) : YieldS P n ops ⟨some d, .load t x, ty, pos, af, none⟩ f A v :=
  Y.ldR hx hr.rd
theorem Y.ldMN {x : Operand} {t : TypeId} {sz bts : Nat} {zs : List Value} {b o : Nat} {cs : List Value} {M : Nat → Option Obj} [h : Ty P t true sz zs bts] [hM : HasM M A] (hx : ev f x = some (.pointer (some ⟨b, o, none⟩))) (hr : CM M b o cs) (hn : cs.length = sz) : YieldS P n ops ⟨some d, .load t x, ty, pos, af, none⟩ f A (.agg cs.toArray) :=
  Y.ldRN hx hr.rd hn
end
theorem SlM.take {M : Nat → Option Obj} {a : Option Addr} {m sz k : Nat} {cs : List Value} (h : SlM M a m sz cs) (hk : k ≤ m) : SlM M a k sz (cs.take (k * sz)) := by
  refine ⟨by rw [List.length_take, h.1]; exact Nat.min_eq_left (Nat.mul_le_mul_right _ hk), ?_⟩
  rcases h.2 with h0 | ⟨b, o, l, t, fz, e, e1, e2⟩
  · exact .inl (by omega)
  · refine .inr ⟨b, o, l, t, fz, e, e1, fun j v hv => e2 j v ?_⟩
    rw [List.getElem?_take] at hv; split at hv
    · exact hv
    · cases hv
theorem opsS_join {P : Program} {n : Nat} {ops rest : List Oper} {Q : Post} {f : Env} {L L0 : List HP} {M M1 : Nat → Option Obj} [h : PickM L M L0]
    (hk : ∀ M', leM M M' → leM M1 M' → opsS P n ops rest Q f (roM M' :: L0)) : opsS P n ops rest Q f (roM M1 :: L) := by
  refine opsS_ent ((h.ent.cons).trans Ent.roM_join) (opsS_ex fun M' => opsS_all (opsS_pure fun hh => hk M' hh.2 hh.1))
theorem swp_absorb {P : Program} {n : Nat} {cd : Code} {Q : Post} {f : Env} {t sz m c : Nat} {a : Option Addr} {cs : List Value} {L L0 : List HP} {M : Nat → Option Obj} [h : PickM L M L0]
    (hk : ∀ M', leM M M' → SlM M' a m sz cs → swp P n cd Q f (roM M' :: L0)) : swp P n cd Q f (SX.slO t sz a m c cs :: L) := by
  refine swp_ent Ent.absorb (swp_ex fun M' => swp_all (swp_pure fun h => hk M' h.1 h.2))
theorem swp_cutT {P : Program} {n : Nat} {x y : Code} {Q : Post} {f : Env} {L : List HP} {σ : Type} (sl : σ → List (Nat × Value)) (H : σ → List HP) (φ : σ → Prop)
    (h : swp P n x (thenS (fun f L => ∃ s, slots f (sl s) ∧ Ent L (H s) ∧ φ s) Q) f L)
    (hk : ∀ s, φ s → swp P n y Q (updAll (sl s)) (H s)) : swp P n x (thenS (fun f L => swp P n y Q f L) Q) f L := by
  refine swp_mono h ?_
  intro e f L q
  cases e <;> first | exact q | (obtain ⟨s, h1, h2, h3⟩ := q; exact swp_keep _ h1 (swp_ent h2 (hk s h3)))
section
variable {P : Program} {n : Nat} {ops : List Oper} {Q : Post} {f : Env} {A L : List HP} {E cs σ : List Nat} {listed : Array Bool}
theorem A.oneK (i : Nat) {k : Nat} {o : Oper} (hr : Region.ready .any ops.toArray listed = [i]) (hi : ops[i]? = some o)
    (h : oneS P n ops o (fun f L2 => ∃ L', Ent L2 (L' ++ A) ∧ anyS P n ops Q cs A k (listed.setIfInBounds i true) true f L') f (L ++ A)) : anyS P n ops Q cs A (k + 1) listed true f L := by
  intro ok F a w s hsh t hh
  refine ⟨fun h0 => (by rw [h0] at hr; cases hr), fun j hj => ?_⟩
  have hri : i ∈ Region.ready .any ops.toArray listed := by rw [hr]; simp
  rw [hr] at hj
  obtain rfl : j = i := by simpa using hj
  have hsh := hsh.set hri
  have t' : St w ((L ++ A) ++ F) := by simpa using t
  have h2 := h (by simpa [okOps] using okOps_at ok hi) F a w s t'
  simp only [wpList] at h2
  unfold wpOp
  have hi' : ops.toArray[j]? = some o := by simpa using hi
  simp only [hi']
  have key : ∀ a w, lift n F (fun e f L => match e with | .normal => (∃ L', Ent L (L' ++ A) ∧ anyS P n ops Q cs A k (listed.setIfInBounds j true) true f L') | _ => False) .normal a w →
      until_ cs (fun w => ∃ L, St w (L ++ (A ++ F))) (listed.setIfInBounds j true) w ∧ anyI P ops.toArray (lift n F Q) (until_ cs fun w => ∃ L, St w (L ++ (A ++ F))) k (listed.setIfInBounds j true) a w := by
    rintro a w ⟨f, L, s, t, L', e, q⟩
    have t := e w F t
    exact ⟨.inr ⟨L', by simpa using t⟩, q ok F a w s hsh (by simpa using t) (fun h => by cases h)⟩
  by_cases hw : Region.wanted o (yielded ops.toArray a.tmps) = true
  · rw [if_pos hw] at h2 ⊢
    refine .inl ?_
    rcases h2 with h2 | ⟨_, a', w', f, L, _, _, q⟩
    · unfold Oper.wp at h2 ⊢
      generalize (execOp a.eval o).run P w = r at *
      cases r with
      | ok m w' =>
        cases m <;> simp only [Oper.upon] at h2 ⊢ <;> first
          | exact key _ _ h2
          | exact h2
          | (refine Calls.mono h2 fun e w'' he => ?_
             cases e with
             | returned u => exact key _ _ he
             | panicked c => obtain ⟨_, _, _, _, q⟩ := he; exact q.elim
             | outgrown => obtain ⟨_, _, _, _, _, _, q⟩ := he; exact q.elim)
          | exact Rows.mono h2 fun _ _ he => key _ _ he
      | halt x w' => cases x <;> simp only [Oper.upon] at h2 ⊢ <;> first | exact h2 | (obtain ⟨_, _, _, _, q⟩ := h2; exact q.elim)
    · exact q.elim
  · rw [if_neg hw] at h2 ⊢
    exact key _ _ h2
theorem D.k {i : Nat} {o : Oper} {L2 : List HP} (hi : ops[i]? = some o) (h9 : Nat.beq i 99999 = false) (hE : E.contains i = true) (hL : L ++ A = L2)
    (h : opsS P n ops [o] (thenS (fun f L2 => ∃ L', Ent L2 (L' ++ A) ∧ drawS P n ops E cs A σ Q (listed.setIfInBounds i true) true f L') (fun _ _ _ => False)) f L2) : drawS P n ops E cs A (i :: σ) Q listed true f L := by
  intro ho hs hQ
  simp only [ordOK, h9, hE, cond_true, cond_false, Bool.and_eq_true, beq_iff_eq] at ho
  refine _root_.Go.SX.A.oneK i ho.1 hi (hL ▸ fun ok F a w s t => wpList_mono (h ok F a w s t) ?_)
  rintro e a w ⟨f, L, s, t, q⟩
  cases e <;> first | exact ⟨f, L, s, t, q.imp fun L' q => ⟨q.1, q.2 ho.2 hs hQ⟩⟩ | exact q.elim
end
end Go.SX
namespace Go.SX
open Go
class KeyT (d : TypeDesc) {κ : Type} [DecidableEq κ] (g : κ → Value) : Prop where
  same : ∀ x y, Instr.sameNow d (g x) (g y) = some (decide (x = y))
  bits : ∀ x, Instr.sameBits 10000 (g x) (g x) = true
  plain : ∀ (P : Program) (t : TypeId), P.underlying t = some d → ∀ (e : Bool) x w, (Instr.checkKey e 10000 t (g x)).run P w = .ok () w
theorem plain_of {d : TypeDesc} {v : Value} (h1 : ∀ ms, d ≠ .interface ms) (h2 : ∀ n e, d ≠ .array n e) (h3 : ∀ fs, d ≠ .struct fs) (P : Program) (t : TypeId) (ht : P.underlying t = some d) (e : Bool) (w : World) : (Instr.checkKey e 10000 t v).run P w = .ok () w := by
  show (Instr.checkKey e (9999 + 1) t v).run P w = .ok () w
  unfold Instr.checkKey
  simp only [Sem.run_bind, run_underlying ht, Result.andThen_ok]
  cases d <;> simp_all
abbrev iK (k : IntKind) : Int → Value := Value.int k
instance {k : IntKind} : KeyT (.int k) (iK k) where
  same x y := by
    simp only [iK, Instr.sameNow]
    by_cases h : x = y <;> simp [h]
  bits x := by simp [iK, Instr.sameBits]
  plain P t h e x w := plain_of (by simp) (by simp) (by simp) P t h e w
theorem bytes_eq (x y : List UInt8) : ((⟨x.toArray⟩ : ByteArray) == ⟨y.toArray⟩) = decide (x = y) := by
  show (x.toArray == y.toArray) = _
  by_cases h : x = y <;> simp [h]
instance : KeyT .string str where
  same x y := by simp only [str, Instr.sameNow, bytes_eq]
  bits x := by simp [str, Instr.sameBits, bytes_eq]
  plain P t h e x w := plain_of (by simp) (by simp) (by simp) P t h e w
def keysOK {κ α : Type} (m : List (κ × α)) : Prop := (m.map (·.1)).Nodup
def entsOK {κ α : Type} (g : κ → Value) (r : α → Value) (m : List (κ × α)) (es : List MapEntry) (clock : Nat) : Prop :=
  es.map (fun e => (e.key, e.val)) = m.map (fun p => (g p.1, r p.2)) ∧ keysOK m ∧ (es.map (·.born)).Pairwise (· < ·) ∧ ∀ e ∈ es, e.born < clock
def mpO {κ α : Type} (g : κ → Value) (r : α → Value) (b : Nat) (m : List (κ × α)) : HP := fun _ h => ∃ (es : Array MapEntry) (clock : Nat), entsOK g r m es.toList clock ∧ h b = some (true, .map es clock)
section
variable {κ α : Type} [DecidableEq κ]
def lkL (m : List (κ × α)) (x : κ) : Option α := (m.find? fun p => decide (p.1 = x)).map (·.2)
def putL (m : List (κ × α)) (x : κ) (a : α) : List (κ × α) := if m.any (fun p => decide (p.1 = x)) then m.map fun p => if p.1 = x then (x, a) else p else m ++ [(x, a)]
def delL (m : List (κ × α)) (x : κ) : List (κ × α) := m.filter fun p => !decide (p.1 = x)
theorem find_none {d : TypeDesc} {g : κ → Value} [K : KeyT d g] (x : κ) : ∀ (es : List MapEntry) (i : Nat), (∀ e ∈ es, ∃ y, e.key = g y ∧ y ≠ x) → Instr.findNow d (g x) es i = some none
  | [], i, _ => rfl
  | e :: es, i, h => by
    obtain ⟨y, h1, h2⟩ := h e (by simp)
    simp only [Instr.findNow, h1, K.same, Ne.symm h2, decide_false]
    exact find_none x es (i + 1) fun e he => h e (by simp [he])
theorem find_some {d : TypeDesc} {g : κ → Value} [K : KeyT d g] (x : κ) : ∀ (p : List MapEntry) (e : MapEntry) (q : List MapEntry) (i : Nat), (∀ e ∈ p, ∃ y, e.key = g y ∧ y ≠ x) → e.key = g x → Instr.findNow d (g x) (p ++ e :: q) i = some (some (i + p.length, e.val))
  | [], e, q, i, _, h => by simp [Instr.findNow, h, K.same]
  | u :: p, e, q, i, hp, h => by
    obtain ⟨y, h1, h2⟩ := hp u (by simp)
    simp only [List.cons_append, Instr.findNow, h1, K.same, Ne.symm h2, decide_false]
    rw [find_some x p e q (i + 1) (fun e he => hp e (by simp [he])) h]
    simp; omega
theorem modify_mid {β : Type} (f : β → β) (e : β) (q : List β) : ∀ p : List β, (p ++ e :: q).modify p.length f = p ++ f e :: q
  | [] => rfl
  | u :: p => by
    have := modify_mid f e q p
    simpa using this
theorem ents_app {g : κ → Value} {r : α → Value} {m1 m2 : List (κ × α)} {es : List MapEntry} (h : es.map (fun e => (e.key, e.val)) = (m1 ++ m2).map (fun p => (g p.1, r p.2))) :
    ∃ p q, es = p ++ q ∧ p.map (fun e => (e.key, e.val)) = m1.map (fun p => (g p.1, r p.2)) ∧ q.map (fun e => (e.key, e.val)) = m2.map (fun p => (g p.1, r p.2)) := by
  refine ⟨es.take m1.length, es.drop m1.length, (List.take_append_drop ..).symm, ?_, ?_⟩
  · rw [List.map_take, h, List.map_append, List.take_left' (by simp)]
  · rw [List.map_drop, h, List.map_append, List.drop_left' (by simp)]
theorem ents_keys {g : κ → Value} {r : α → Value} {m : List (κ × α)} {es : List MapEntry} (h : es.map (fun e => (e.key, e.val)) = m.map (fun p => (g p.1, r p.2))) {x : κ} (hx : ∀ p ∈ m, p.1 ≠ x) : ∀ e ∈ es, ∃ y, e.key = g y ∧ y ≠ x := by
  intro e he
  have : (e.key, e.val) ∈ m.map (fun p => (g p.1, r p.2)) := by rw [← h]; exact List.mem_map_of_mem (f := fun e : MapEntry => (e.key, e.val)) he
  obtain ⟨p, hp, e1⟩ := List.mem_map.1 this
  exact ⟨p.1, (Prod.mk.inj e1).1.symm, hx p hp⟩
theorem keyCase (m : List (κ × α)) (hk : keysOK m) (x : κ) : (∃ p a q, m = p ++ (x, a) :: q ∧ (∀ u ∈ p, u.1 ≠ x) ∧ (∀ u ∈ q, u.1 ≠ x)) ∨ ∀ u ∈ m, u.1 ≠ x := by
  by_cases h : x ∈ m.map (·.1)
  · obtain ⟨u, hu, rfl⟩ := List.mem_map.1 h
    obtain ⟨p, q, rfl⟩ := List.append_of_mem hu
    unfold keysOK at hk
    rw [List.map_append, List.map_cons, List.nodup_append] at hk
    obtain ⟨_, h2, h3⟩ := hk
    refine .inl ⟨p, u.2, q, rfl, fun v hv e => ?_, fun v hv e => ?_⟩
    · exact h3 _ (List.mem_map_of_mem hv) _ (by simp) e
    · exact (List.nodup_cons.1 h2).1 (e ▸ List.mem_map_of_mem hv)
  · exact .inr fun u hu e => h (e ▸ List.mem_map_of_mem hu)
theorem lkL_mid {p q : List (κ × α)} {x : κ} {a : α} (hp : ∀ u ∈ p, u.1 ≠ x) : lkL (p ++ (x, a) :: q) x = some a := by
  have : p.find? (fun u => decide (u.1 = x)) = none := by simp; exact fun a b h => hp (a, b) h
  simp [lkL, List.find?_append, this]
theorem lkL_none {m : List (κ × α)} {x : κ} (h : ∀ u ∈ m, u.1 ≠ x) : lkL m x = none := by
  have : m.find? (fun u => decide (u.1 = x)) = none := by simp; exact fun a b hh => h (a, b) hh
  simp [lkL, this]
theorem map_not {m : List (κ × α)} {x : κ} {a : α} (h : ∀ u ∈ m, u.1 ≠ x) : (m.map fun u => if u.1 = x then (x, a) else u) = m := by
  conv => rhs; rw [← List.map_id m]
  exact List.map_congr_left fun u hu => by simp [h u hu]
theorem putL_mid {p q : List (κ × α)} {x : κ} {a c : α} (hp : ∀ u ∈ p, u.1 ≠ x) (hq : ∀ u ∈ q, u.1 ≠ x) : putL (p ++ (x, a) :: q) x c = p ++ (x, c) :: q := by
  have : ((p ++ (x, a) :: q).any fun u => decide (u.1 = x)) = true := by simp
  rw [putL, if_pos this, List.map_append, List.map_cons, map_not hp, map_not hq]; simp
theorem putL_none {m : List (κ × α)} {x : κ} {c : α} (h : ∀ u ∈ m, u.1 ≠ x) : putL m x c = m ++ [(x, c)] := by
  have : ¬ (m.any fun u => decide (u.1 = x)) = true := by
    simp only [List.any_eq_true, decide_eq_true_eq, not_exists, not_and]; exact h
  rw [putL, if_neg this]
theorem delL_mid {p q : List (κ × α)} {x : κ} {a : α} (hp : ∀ u ∈ p, u.1 ≠ x) (hq : ∀ u ∈ q, u.1 ≠ x) : delL (p ++ (x, a) :: q) x = p ++ q := by
  unfold delL
  rw [List.filter_append, List.filter_cons]
  simp only [decide_true, Bool.not_true, Bool.false_eq_true, if_false]
  rw [List.filter_eq_self.2, List.filter_eq_self.2]
  · intro u hu; simp [hq u hu]
  · intro u hu; simp [hp u hu]
theorem delL_none {m : List (κ × α)} {x : κ} (h : ∀ u ∈ m, u.1 ≠ x) : delL m x = m := List.filter_eq_self.2 fun u hu => by simp [h u hu]
theorem keysOK_mid {p q : List (κ × α)} {x : κ} {a c : α} (h : keysOK (p ++ (x, a) :: q)) : keysOK (p ++ (x, c) :: q) := by simpa [keysOK] using h
theorem putL_ok {m : List (κ × α)} (h : keysOK m) (x : κ) (a : α) : keysOK (putL m x a) := by
  rcases keyCase m h x with ⟨p, b, q, rfl, hp, hq⟩ | hn
  · rw [putL_mid hp hq]; exact keysOK_mid h
  · rw [putL_none hn]
    unfold keysOK at *
    rw [List.map_append, List.nodup_append]
    refine ⟨h, by simp, fun y hy z hz => ?_⟩
    obtain ⟨u, hu, rfl⟩ := List.mem_map.1 hy
    simp at hz; subst hz; exact hn u hu
theorem delL_ok {m : List (κ × α)} (h : keysOK m) (x : κ) : keysOK (delL m x) := by
  unfold keysOK delL at *
  exact List.Sublist.nodup (List.Sublist.map _ List.filter_sublist) h
end
class FindMp (b : Nat) (L : List HP) {κ α : outParam Type} (g : outParam (κ → Value)) (r : outParam (α → Value)) (m : outParam (List (κ × α))) (L' : outParam (HP → List HP)) : Prop where
  at_ : ∃ R, L.Perm (mpO g r b m :: R) ∧ ∀ x, (x :: R).Perm (L' x)
instance FindMp.here {κ α : Type} {b : Nat} {g : κ → Value} {r : α → Value} {m : List (κ × α)} {L : List HP} : FindMp b (mpO g r b m :: L) g r m (fun x => x :: L) := ⟨L, .refl _, fun _ => .refl _⟩
instance (priority := low) FindMp.there {κ α : Type} {b : Nat} {g : κ → Value} {r : α → Value} {m : List (κ × α)} {A : HP} {L : List HP} {L' : HP → List HP} [h : FindMp b L g r m L'] : FindMp b (A :: L) g r m (fun x => A :: L' x) := by
  obtain ⟨R, h1, h2⟩ := h.at_
  exact ⟨A :: R, (h1.cons A).trans (.swap _ _ _), fun x => List.Perm.trans (.swap _ _ _) ((h2 x).cons A)⟩
section
variable {κ α : Type} {g : κ → Value} {r : α → Value} {m : List (κ × α)}
theorem St.mp_open {w : World} {b : Nat} {L : List HP} (H : St w (mpO g r b m :: L)) : ∃ es clock, entsOK g r m es.toList clock ∧ St w (pt b (.map es clock) :: L) := by
  obtain ⟨h, f, h1, h2, o, e, ⟨es, clock, k, hb⟩, l⟩ := H
  exact ⟨es, clock, k, h, f, h1, h2, o, e, hb, l⟩
theorem St.mp_shut {w : World} {b : Nat} {L : List HP} {es : Array MapEntry} {clock : Nat} (k : entsOK g r m es.toList clock) (H : St w (pt b (.map es clock) :: L)) : St w (mpO g r b m :: L) :=
  St.of_sep (L := pt b (.map es clock) :: L) (fun hh ⟨h1, h2, o, e, p, l⟩ => ⟨h1, h2, o, e, ⟨es, clock, k, p⟩, l⟩) H
theorem FindMp.open_ {b : Nat} {L F : List HP} {L' : HP → List HP} (h : FindMp b L g r m L') {w : World} (H : St w (L ++ F)) : ∃ R es clock, entsOK g r m es.toList clock ∧ St w (pt b (.map es clock) :: (R ++ F)) ∧ ∀ x w, St w (x :: (R ++ F)) → St w (L' x ++ F) := by
  obtain ⟨R, p1, p2⟩ := h.at_
  have H1 : St w (mpO g r b m :: (R ++ F)) := by simpa using St.perm (p1.append_right F) H
  obtain ⟨es, clock, k, H2⟩ := St.mp_open H1
  exact ⟨R, es, clock, k, H2, fun x w H => St.perm ((p2 x).append_right F) (by simpa using H)⟩
end
class KTy (P : Program) (t : TypeId) (d : outParam TypeDesc) : Prop where
  und : P.underlying t = some d
instance (priority := low) KTy.ofInt {P : Program} {t : TypeId} {k : IntKind} [h : IntTy P t k] : KTy P t (.int k) := ⟨h.raw⟩
instance (priority := low) KTy.ofStr {P : Program} {t : TypeId} [h : StrTy P t] : KTy P t .string := ⟨h.raw⟩
section
variable {κ α : Type} [DecidableEq κ] {g : κ → Value} {r : α → Value} {m : List (κ × α)}
variable {P : Program} {n : Nat} {ops rest : List Oper} {Q : Post} {f : Env} {L : List HP}
variable {d : Tmp} {ty : TypeId} {pos : String} {af : Array Edge}
theorem run_findKey {kt : TypeId} {dd : TypeDesc} {k : Value} {es : List MapEntry} {o : Option (Nat × Value)} (hk : P.underlying kt = some dd) (h : Instr.findNow dd k es 0 = some o) (w : World) : (Instr.findKey kt k es).run P w = .ok o w := by
  simp [Instr.findKey, run_underlying hk, h]
theorem mpO_new {w : World} {L : List HP} (g : κ → Value) (r : α → Value) (H : St w L) : St { w with heap := w.heap.push (.map #[] 0) } (mpO g r w.heap.size [] :: L) :=
  St.mp_shut (es := #[]) (clock := 0) ⟨rfl, by simp [keysOK], by simp, by simp⟩ (St.pt_new H rfl)
theorem S.mkm {t : TypeId} (g : κ → Value) (r : α → Value) (hk : ∀ b, opsS P n ops rest Q (upd f d (.map (some b))) (mpO g r b [] :: L)) :
    opsS P n ops (⟨some d, .makeMap t none, ty, pos, af, none⟩ :: rest) Q f L := by
  refine opsS_value (R := fun v L' => ∃ b, v = .map (some b) ∧ L' = mpO g r b [] :: L) (fun F a w s t0 => ?_) (by rintro _ _ ⟨b, rfl, rfl⟩; exact hk b)
  exact ⟨.map (some w.heap.size), _, _, by simp [execOp, Instr.makeMap], mpO_new g r t0, _, rfl, rfl⟩
theorem Y.lk {A : List HP} {x y : Operand} {t kt e : TypeId} {dd : TypeDesc} {b : Nat} {q : κ} {sz bts : Nat} {ag : Bool} {zs : List Value} {z : Value} {A' : HP → List HP} [h : MapTy P t kt e] [h1 : KTy P kt dd] [K : KeyT dd g] [h2 : Ty P e ag sz zs bts] [hm : FindMp b A g r m A'] (ok : Bool)
    (hx : ev f x = some (.map (some b))) (hy : ev f y = some (g q)) (hz : ∀ w, (zeroValue e).run P w = .ok z w) :
    YieldS P n ops ⟨some d, .lookup t x y ok, ty, pos, af, none⟩ f A (let v := (match lkL m q with | some u => (r u, true) | none => (z, false)); bif ok then .tuple #[v.1, .bool v.2] else v.1) := by
  refine Y.of' fun a w F s t0 => ?_
  obtain ⟨R, es, clock, ⟨he, hk, _, _⟩, H, _⟩ := hm.open_ t0
  have hb := St.pt_read H
  have hget : (getObj b).run P w = .ok (.map es clock) w := MapKept.run_getObj_map hb
  have hpl := K.plain P kt h1.und es.isEmpty q w
  have hm' : (m.map fun p => (g p.1, r p.2)) = es.toList.map fun e => (e.key, e.val) := he.symm
  rcases keyCase m hk q with ⟨p, u, q', rfl, hp, hq⟩ | hn
  · obtain ⟨ep, eq, e1, e2, e3⟩ := ents_app he
    cases eq with
    | nil => simp at e3
    | cons ee eq =>
      simp only [List.map_cons, List.cons.injEq, Prod.mk.injEq] at e3
      have hf := find_some (d := dd) q ep ee eq 0 (ents_keys e2 hp) e3.1.1
      rw [← e1, Nat.zero_add] at hf
      have hfk := run_findKey (P := P) (kt := kt) h1.und hf w
      rw [lkL_mid hp]
      cases ok <;> simp [execOp, s.eval hx, s.eval hy, Instr.lookup, h.und, hget, hpl, hfk, e3.1.2]
  · have hf := find_none (d := dd) q es.toList 0 (ents_keys he hn)
    have hfk := run_findKey (P := P) (kt := kt) h1.und hf w
    rw [lkL_none hn]
    cases ok <;> simp [execOp, s.eval hx, s.eval hy, Instr.lookup, h.und, hget, hpl, hfk, hz]
theorem Y.mlen {A : List HP} {x : Operand} {t kt e : TypeId} {b : Nat} {A' : HP → List HP} [h : MapTy P t kt e] [hm : FindMp b A g r m A'] (hx : ev f x = some (.map (some b))) :
    YieldS P n ops ⟨some d, .call ⟨.builtin .len, #[x], #[t]⟩, ty, pos, af, none⟩ f A (.int .i64 m.length) := by
  refine Y.of' fun a w F s t0 => ?_
  obtain ⟨R, es, clock, ⟨he, hk, _, _⟩, H, _⟩ := hm.open_ t0
  have hb := St.pt_read H
  have hget : (getObj b).run P w = .ok (.map es clock) w := MapKept.run_getObj_map hb
  have hl : es.size = m.length := by have := congrArg List.length he; simpa using this
  simp [execOp, resolve, invoke, s.eval hx, builtin, Builtin.len_, h.und, hget, goInt, hl]
theorem St.mp_set {w : World} {b : Nat} {L : List HP} {es es' : Array MapEntry} {clock clock' : Nat} {m' : List (κ × α)} (H : St w (pt b (.map es clock) :: L)) (k : entsOK g r m' es'.toList clock') :
    St { w with heap := w.heap.setIfInBounds b (.map es' clock') } (mpO g r b m' :: L) := by
  have hb := St.pt_read H
  have hlt : b < w.heap.size := (Array.getElem?_eq_some_iff.1 hb).1
  refine St.mp_shut k (St.pt_write H ?_ (fun j hj => ?_))
  · simp [hlt]
  · simp [Ne.symm hj]
theorem S.mu {x y z : Operand} {t kt e : TypeId} {dd : TypeDesc} {b : Nat} {q : κ} {u : α} {L' : HP → List HP} [h : MapTy P t kt e] [h1 : KTy P kt dd] [K : KeyT dd g] [hm : FindMp b L g r m L']
    (hx : ev f x = some (.map (some b))) (hy : ev f y = some (g q)) (hz : ev f z = some (r u)) (hk : opsS P n ops rest Q f (L' (mpO g r b (putL m q u)))) :
    opsS P n ops (⟨none, .mapUpdate t x y z, ty, pos, af, none⟩ :: rest) Q f L := by
  refine opsS_skip1 (L' := L' (mpO g r b (putL m q u))) (fun F a w s t0 => ?_) hk
  obtain ⟨R, es, clock, ⟨he, hkk, hbo, hcl⟩, H, hback⟩ := hm.open_ t0
  have hb := St.pt_read H
  have hget : (getObj b).run P w = .ok (.map es clock) w := MapKept.run_getObj_map hb
  have hset : ∀ o, (setObj b o).run P w = .ok () { w with heap := w.heap.setIfInBounds b o } := fun o => MapKept.run_setObj_map o hb
  have hpl := K.plain P kt h1.und false q w
  rcases keyCase m hkk q with ⟨p, v, q', rfl, hp, hq⟩ | hn
  · obtain ⟨ep, eq, e1, e2, e3⟩ := ents_app he
    cases eq with
    | nil => simp at e3
    | cons ee eq =>
      simp only [List.map_cons, List.cons.injEq, Prod.mk.injEq] at e3
      have hf := find_some (d := dd) q ep ee eq 0 (ents_keys e2 hp) e3.1.1
      rw [← e1, Nat.zero_add] at hf
      have hfk := run_findKey (P := P) (kt := kt) h1.und hf w
      have hat : es[ep.length]? = some ee := by rw [← Array.getElem?_toList, e1]; simp
      have hks : (Instr.keyThatStays ee.key (g q)).run P w = .ok (g q) w := by simp [Instr.keyThatStays, e3.1.1, K.bits]
      refine ⟨_, ?_, hback _ _ (St.mp_set (es' := es.modify (ep.length) fun e => { e with key := g q, val := r u }) (clock' := clock) (m' := putL (p ++ (q, v) :: q') q u) H ?_)⟩
      · simp [execOp, s.eval hx, s.eval hy, s.eval hz, Instr.mapUpdate, h.und, hget, hpl, hfk, hat, hks, hset]
      · have el : (es.modify (ep.length) fun e => { e with key := g q, val := r u }).toList = ep ++ { ee with key := g q, val := r u } :: eq := by
          rw [Array.toList_modify, e1, modify_mid]
        rw [el, putL_mid hp hq]
        refine ⟨?_, keysOK_mid hkk, ?_, fun e' he' => ?_⟩
        · simp only [List.map_append, List.map_cons, e2, e3.2]
        · rw [e1] at hbo; simpa using hbo
        · rw [e1] at hcl
          simp only [List.mem_append, List.mem_cons] at he' hcl
          rcases he' with h' | rfl | h'
          · exact hcl _ (.inl h')
          · exact hcl ee (.inr (.inl rfl))
          · exact hcl _ (.inr (.inr h'))
  · have hf := find_none (d := dd) q es.toList 0 (ents_keys he hn)
    have hfk := run_findKey (P := P) (kt := kt) h1.und hf w
    refine ⟨_, ?_, hback _ _ (St.mp_set (es' := es.push { key := g q, val := r u, born := clock }) (clock' := clock + 1) (m' := putL m q u) H ?_)⟩
    · simp [execOp, s.eval hx, s.eval hy, s.eval hz, Instr.mapUpdate, h.und, hget, hpl, hfk, hset]
    · rw [putL_none hn]
      refine ⟨by simp [he], by rw [← putL_none hn]; exact putL_ok hkk q u, ?_, ?_⟩
      · simp only [Array.toList_push, List.map_append, List.map_cons, List.map_nil]
        rw [List.pairwise_append]
        refine ⟨hbo, by simp, fun a ha c hc => ?_⟩
        obtain ⟨e', he', rfl⟩ := List.mem_map.1 ha
        simp at hc; subst hc; exact hcl e' he'
      · intro e' he'
        simp only [Array.toList_push, List.mem_append, List.mem_singleton] at he'
        rcases he' with h' | rfl
        · have := hcl e' h'; omega
        · simp
theorem S.dl {x y : Operand} {t t' kt e : TypeId} {dd : TypeDesc} {b : Nat} {q : κ} {L' : HP → List HP} [h : MapTy P t kt e] [h1 : KTy P kt dd] [K : KeyT dd g] [hm : FindMp b L g r m L']
    (hx : ev f x = some (.map (some b))) (hy : ev f y = some (g q)) (hk : opsS P n ops rest Q f (L' (mpO g r b (delL m q)))) :
    opsS P n ops (⟨none, .call ⟨.builtin .delete, #[x, y], #[t, t']⟩, ty, pos, af, none⟩ :: rest) Q f L := by
  intro ok F a w s t0
  simp only [okOps, List.all_cons, Bool.and_eq_true] at ok
  refine wpList_plain rfl fun K' hK => ?_
  obtain ⟨R, es, clock, ⟨he, hkk, hbo, hcl⟩, H, hback⟩ := hm.open_ t0
  have hb := St.pt_read H
  have hget : (getObj b).run P w = .ok (.map es clock) w := MapKept.run_getObj_map hb
  have hset : ∀ o, (setObj b o).run P w = .ok () { w with heap := w.heap.setIfInBounds b o } := fun o => MapKept.run_setObj_map o hb
  have hpl := K.plain P kt h1.und es.isEmpty q w
  have key : ∃ w', (execOp a.eval ⟨none, .call ⟨.builtin .delete, #[x, y], #[t, t']⟩, ty, pos, af, none⟩).run P w = .ok (.value (.tuple #[])) w' ∧ St w' (L' (mpO g r b (delL m q)) ++ F) := by
    rcases keyCase m hkk q with ⟨p, v, q', rfl, hp, hq⟩ | hn
    · obtain ⟨ep, eq, e1, e2, e3⟩ := ents_app he
      cases eq with
      | nil => simp at e3
      | cons ee eq =>
        simp only [List.map_cons, List.cons.injEq, Prod.mk.injEq] at e3
        have hf := find_some (d := dd) q ep ee eq 0 (ents_keys e2 hp) e3.1.1
        rw [← e1, Nat.zero_add] at hf
        have hfk := run_findKey (P := P) (kt := kt) h1.und hf w
        refine ⟨_, ?_, hback _ _ (St.mp_set (es' := es.eraseIdxIfInBounds (ep.length)) (clock' := clock) (m' := delL (p ++ (q, v) :: q') q) H ?_)⟩
        · simp [execOp, resolve, invoke, builtin, s.eval hx, s.eval hy, Builtin.delete_, h.und, hget, hpl, hfk, hset]
        · have el : (es.eraseIdxIfInBounds (ep.length)).toList = ep ++ eq := by
            have hl : ep.length < es.size := by have := congrArg List.length e1; simp at this; omega
            rw [Array.eraseIdxIfInBounds, dif_pos hl, Array.toList_eraseIdx, e1, List.eraseIdx_append_of_length_le (Nat.le_refl _)]
            simp
          rw [el]
          refine ⟨?_, delL_ok hkk q, ?_, fun e' he' => ?_⟩
          · rw [delL_mid hp hq]; simp only [List.map_append, e2, e3.2]
          · rw [e1] at hbo
            refine List.Pairwise.sublist ?_ hbo
            exact List.Sublist.map _ (List.Sublist.append_left (List.sublist_cons_self _ _) _)
          · rw [e1] at hcl
            simp only [List.mem_append] at he'
            exact hcl _ (by simp only [List.mem_append, List.mem_cons]; exact he'.imp id .inr)
    · have hf := find_none (d := dd) q es.toList 0 (ents_keys he hn)
      have hfk := run_findKey (P := P) (kt := kt) h1.und hf w
      refine ⟨_, ?_, hback _ _ (St.mp_set (es' := es) (clock' := clock) (m' := delL m q) H ?_)⟩
      · simp [execOp, resolve, invoke, builtin, s.eval hx, s.eval hy, Builtin.delete_, h.und, hget, hpl, hfk, hset]
      · rw [delL_none hn]; exact ⟨he, hkk, hbo, hcl⟩
  obtain ⟨w', hr, ht⟩ := key
  simp only [Oper.wp, hr, Oper.upon]
  exact hK _ _ (hk ok.2 F _ _ (s.put ok.1 _) ht)
end
end Go.SX
namespace Go.SX
open Go
theorem swp_cutB {P : Program} {n : Nat} {x y : Code} {Q : Post} {f : Env} {L : List HP} {σ : Type} {i : Nat} (sl : σ → List (Nat × Value)) (H : σ → List HP) (φ : σ → Prop)
    (h : swp P n x (blockS i (thenS (fun f L => ∃ s, slots f (sl s) ∧ Ent L (H s) ∧ φ s) Q)) f L)
    (hk : ∀ s, φ s → swp P n y Q (updAll (sl s)) (H s)) : swp P n x (blockS i (thenS (fun f L => swp P n y Q f L) Q)) f L := by
  refine swp_mono h ?_
  have key : ∀ e f L, thenS (fun f L => ∃ s, slots f (sl s) ∧ Ent L (H s) ∧ φ s) Q e f L → thenS (fun f L => swp P n y Q f L) Q e f L := by
    intro e f L q
    cases e <;> first | exact q | (obtain ⟨s, h1, h2, h3⟩ := q; exact swp_keep _ h1 (swp_ent h2 (hk s h3)))
  intro e f L q
  cases e with
  | exit j =>
    unfold blockS at q ⊢
    simp only at q ⊢
    cases hb : Nat.beq j i with
    | true => rw [hb] at q; simp only [cond_true] at q ⊢; exact key _ _ _ q
    | false => rw [hb] at q; simp only [cond_false] at q ⊢; exact key _ _ _ q
  | _ => unfold blockS at q ⊢; exact key _ _ _ q
theorem UpdS.cap {a : Option Addr} {L : List HP} {t sz m c : Nat} {cs : List Value} {L' : HP → List HP} (h : UpdS a L t sz m c cs L') {w : World} {F : List HP} (H : St w (L ++ F)) : m ≤ c := by
  obtain ⟨R, p, _⟩ := h.at_
  have := St.slO_open (L := R ++ F) (by simpa using St.perm (p.append_right F) H)
  rcases this.2 with ⟨_, h, h', _⟩ | ⟨b, _, h, h', _⟩
  · omega
  · exact h'
section
variable {P : Program} {n : Nat} {ops : List Oper} {f : Env} {A : List HP} {d : Tmp} {ty : TypeId} {pos : String} {af : Array Edge}
theorem Y.iac {x y : Operand} {t e : TypeId} {b o m c sz bts k : Nat} {ag : Bool} {zs : List Value} {kk : IntKind} [h : SlTy P t e] [h2 : Ty P e ag sz zs bts] (hx : ev f x = some (.slice (some ⟨b, o, none⟩) m c)) (hy : ev f y = some (.int kk (Int.ofNat k))) (h1 : k < m) :
    YieldS P n ops ⟨some d, .indexAddr t x y, ty, pos, af, none⟩ f A (.pointer (some ⟨b, o + k * sz, none⟩)) := Y.ia hx hy rfl h1
end
section
variable {P : Program} {n : Nat} {ops : List Oper} {f : Env} {A : List HP} {d : Tmp} {ty : TypeId} {pos : String} {af : Array Edge}
end
end Go.SX
namespace Go.SX
open Go
theorem nz {α : Type _} : ([] : List α) = [] := rfl
theorem cz {α : Type _} {l l1 l2 : List α} {x : α} (h : l = x :: l1) (h2 : l1 = l2) : l = x :: l2 := h2 ▸ h
theorem mln {L : List HP} : maskL [] L = L := rfl
theorem mlt {m : List Bool} {x : HP} {L L' : List HP} (h : maskL m L = L') : maskL (true :: m) (x :: L) = L' := h
theorem mlf {m : List Bool} {x : HP} {L L' : List HP} (h : maskL m L = L') : maskL (false :: m) (x :: L) = x :: L' := by rw [← h]; rfl
theorem man {L : List HP} : maskA [] L = [] := rfl
theorem mat {m : List Bool} {x : HP} {L L' : List HP} (h : maskA m L = L') : maskA (true :: m) (x :: L) = x :: L' := by rw [← h]; rfl
theorem maf {m : List Bool} {x : HP} {L L' : List HP} (h : maskA m L = L') : maskA (false :: m) (x :: L) = L' := h
class Imv (o : Oper) : Prop where
  tt : True
class Ias_ (o : Oper) : Prop where
  tt : True
class Inc (o : Oper) : Prop where
  tt : True
class Ifa (o : Oper) : Prop where
  tt : True
class Iia (o : Oper) : Prop where
  tt : True
class Ieq (o : Oper) : Prop where
  tt : True
class Ine (o : Oper) : Prop where
  tt : True
class Ilt (o : Oper) : Prop where
  tt : True
class Ile (o : Oper) : Prop where
  tt : True
class Igt (o : Oper) : Prop where
  tt : True
class Ige (o : Oper) : Prop where
  tt : True
class Iad (o : Oper) : Prop where
  tt : True
class Isb (o : Oper) : Prop where
  tt : True
class Iln (o : Oper) : Prop where
  tt : True
class Imi (o : Oper) : Prop where
  tt : True
class Ima (o : Oper) : Prop where
  tt : True
class Ipk (o : Oper) : Prop where
  tt : True
class Iex (o : Oper) : Prop where
  tt : True
class Ino (o : Oper) : Prop where
  tt : True
class Ibd (o : Oper) : Prop where
  tt : True
class Ild (P : Program) (o : Oper) (ag : outParam Bool) : Prop where
  tt : True
section
variable {P : Program} {d : Tmp} {dd : Option Tmp} {op : Op} {ty : TypeId} {pos : String} {af : Array Edge} {g : Nat × Bool} {x y z : Operand} {t t' : TypeId} {k : Nat} {xs : Array Operand} {ts : Array TypeId} {ps : Array (Nat × Operand)} {ok : Bool}
instance : Imv ⟨some d, .move x, ty, pos, af, none⟩ := ⟨trivial⟩
instance : Ias_ ⟨some d, .assign x, ty, pos, af, none⟩ := ⟨trivial⟩
instance : Inc ⟨some d, .nilCheck x, ty, pos, af, none⟩ := ⟨trivial⟩
instance : Ifa ⟨some d, .fieldAddr t x k, ty, pos, af, none⟩ := ⟨trivial⟩
instance : Iia ⟨some d, .indexAddr t x y, ty, pos, af, none⟩ := ⟨trivial⟩
instance : Ieq ⟨some d, .binOp .eql t x y t', ty, pos, af, none⟩ := ⟨trivial⟩
instance : Ine ⟨some d, .binOp .neq t x y t', ty, pos, af, none⟩ := ⟨trivial⟩
instance : Ilt ⟨some d, .binOp .lss t x y t', ty, pos, af, none⟩ := ⟨trivial⟩
instance : Ile ⟨some d, .binOp .leq t x y t', ty, pos, af, none⟩ := ⟨trivial⟩
instance : Igt ⟨some d, .binOp .gtr t x y t', ty, pos, af, none⟩ := ⟨trivial⟩
instance : Ige ⟨some d, .binOp .geq t x y t', ty, pos, af, none⟩ := ⟨trivial⟩
instance : Iad ⟨some d, .binOp .add t x y t', ty, pos, af, none⟩ := ⟨trivial⟩
instance : Isb ⟨some d, .binOp .sub t x y t', ty, pos, af, none⟩ := ⟨trivial⟩
instance : Iln ⟨some d, .call ⟨.builtin .len, xs, ts⟩, ty, pos, af, none⟩ := ⟨trivial⟩
instance : Imi ⟨some d, .call ⟨.builtin .min, xs, ts⟩, ty, pos, af, none⟩ := ⟨trivial⟩
instance : Ima ⟨some d, .call ⟨.builtin .max, xs, ts⟩, ty, pos, af, none⟩ := ⟨trivial⟩
instance : Ipk ⟨some d, .pick x y z, ty, pos, af, none⟩ := ⟨trivial⟩
instance : Iex ⟨some d, .extract x k, ty, pos, af, none⟩ := ⟨trivial⟩
instance : Ino ⟨some d, .unOp .not t x, ty, pos, af, none⟩ := ⟨trivial⟩
instance : Ibd ⟨some d, .build t ps, ty, pos, af, none⟩ := ⟨trivial⟩
instance {ag : Bool} {sz bts : Nat} {zs : List Value} [Ty P t ag sz zs bts] : Ild P ⟨some d, .load t x, ty, pos, af, none⟩ ag := ⟨trivial⟩
end
namespace QY
section
variable {P : Program} {n : Nat} {ops : List Oper} {f : Env} {A : List HP} {v : Value}
theorem mv {o : Oper} [Imv o] (h : YieldS P n ops o f A v) : YieldS P n ops o f A v := h
theorem as_ {o : Oper} [Ias_ o] (h : YieldS P n ops o f A v) : YieldS P n ops o f A v := h
theorem nc {o : Oper} [Inc o] (h : YieldS P n ops o f A v) : YieldS P n ops o f A v := h
theorem fa {o : Oper} [Ifa o] (h : YieldS P n ops o f A v) : YieldS P n ops o f A v := h
theorem ia {o : Oper} [Iia o] (h : YieldS P n ops o f A v) : YieldS P n ops o f A v := h
theorem eq {o : Oper} [Ieq o] (h : YieldS P n ops o f A v) : YieldS P n ops o f A v := h
theorem ne {o : Oper} [Ine o] (h : YieldS P n ops o f A v) : YieldS P n ops o f A v := h
theorem lt {o : Oper} [Ilt o] (h : YieldS P n ops o f A v) : YieldS P n ops o f A v := h
theorem le {o : Oper} [Ile o] (h : YieldS P n ops o f A v) : YieldS P n ops o f A v := h
theorem gt {o : Oper} [Igt o] (h : YieldS P n ops o f A v) : YieldS P n ops o f A v := h
theorem ge {o : Oper} [Ige o] (h : YieldS P n ops o f A v) : YieldS P n ops o f A v := h
theorem ad {o : Oper} [Iad o] (h : YieldS P n ops o f A v) : YieldS P n ops o f A v := h
theorem sb {o : Oper} [Isb o] (h : YieldS P n ops o f A v) : YieldS P n ops o f A v := h
theorem ln {o : Oper} [Iln o] (h : YieldS P n ops o f A v) : YieldS P n ops o f A v := h
theorem mi {o : Oper} [Imi o] (h : YieldS P n ops o f A v) : YieldS P n ops o f A v := h
theorem ma {o : Oper} [Ima o] (h : YieldS P n ops o f A v) : YieldS P n ops o f A v := h
theorem pk {o : Oper} [Ipk o] (h : YieldS P n ops o f A v) : YieldS P n ops o f A v := h
theorem ex {o : Oper} [Iex o] (h : YieldS P n ops o f A v) : YieldS P n ops o f A v := h
theorem no {o : Oper} [Ino o] (h : YieldS P n ops o f A v) : YieldS P n ops o f A v := h
theorem bd {o : Oper} [Ibd o] (h : YieldS P n ops o f A v) : YieldS P n ops o f A v := h
theorem l1 {o : Oper} [Ild P o false] (h : YieldS P n ops o f A v) : YieldS P n ops o f A v := h
theorem lN {o : Oper} [Ild P o true] (h : YieldS P n ops o f A v) : YieldS P n ops o f A v := h
end
end QY
class IsY (o : Oper) (d : outParam Tmp) : Prop where
  dst : o.dst = some d
class IsG (o : Oper) : Prop where
  tt : True
class IsS (o : Oper) : Prop where
  tt : True
class IsA (o : Oper) : Prop where
  tt : True
section
variable {d : Tmp} {dd : Option Tmp} {op : Op} {ty : TypeId} {pos : String} {af : Array Edge} {g : Nat × Bool} {x y z : Operand} {t t' : TypeId} {k : Nat} {xs : Array Operand} {ts : Array TypeId} {ps : Array (Nat × Operand)} {ok : Bool}
instance : IsY ⟨some d, .move x, ty, pos, af, none⟩ d := ⟨rfl⟩
instance : IsY ⟨some d, .assign x, ty, pos, af, none⟩ d := ⟨rfl⟩
instance : IsY ⟨some d, .nilCheck x, ty, pos, af, none⟩ d := ⟨rfl⟩
instance : IsY ⟨some d, .load t x, ty, pos, af, none⟩ d := ⟨rfl⟩
instance : IsY ⟨some d, .fieldAddr t x k, ty, pos, af, none⟩ d := ⟨rfl⟩
instance {o : BinOp} : IsY ⟨some d, .binOp o t x y t', ty, pos, af, none⟩ d := ⟨rfl⟩
instance : IsY ⟨some d, .call ⟨.builtin .len, xs, ts⟩, ty, pos, af, none⟩ d := ⟨rfl⟩
instance : IsY ⟨some d, .call ⟨.builtin .min, xs, ts⟩, ty, pos, af, none⟩ d := ⟨rfl⟩
instance : IsY ⟨some d, .call ⟨.builtin .max, xs, ts⟩, ty, pos, af, none⟩ d := ⟨rfl⟩
instance : IsY ⟨some d, .pick x y z, ty, pos, af, none⟩ d := ⟨rfl⟩
instance : IsY ⟨some d, .extract x k, ty, pos, af, none⟩ d := ⟨rfl⟩
instance : IsY ⟨some d, .unOp .not t x, ty, pos, af, none⟩ d := ⟨rfl⟩
instance : IsY ⟨some d, .indexAddr t x y, ty, pos, af, none⟩ d := ⟨rfl⟩
instance : IsY ⟨some d, .build t ps, ty, pos, af, none⟩ d := ⟨rfl⟩
instance : IsG ⟨dd, op, ty, pos, af, some g⟩ := ⟨trivial⟩
instance : IsS ⟨none, .store t x y, ty, pos, af, none⟩ := ⟨trivial⟩
instance : IsA ⟨some d, .alloc t, ty, pos, af, none⟩ := ⟨trivial⟩
instance : IsA ⟨some d, .box t x, ty, pos, af, none⟩ := ⟨trivial⟩
instance : IsA ⟨some d, .buildSlice t k ps, ty, pos, af, none⟩ := ⟨trivial⟩
end
theorem S.y' {P : Program} {n : Nat} {ops rest : List Oper} {Q : Post} {f : Env} {L : List HP} {o : Oper} {d : Tmp} {v : Value} (hd : o.dst = some d) (hy : YieldS P n ops o f L v) (hk : opsS P n ops rest Q (upd f d v) L) : opsS P n ops (o :: rest) Q f L := by
  obtain ⟨dd, op, ty, pos, af, g⟩ := o
  cases hd
  exact S.y hy hk
namespace GQ
section
variable {P : Program} {n : Nat} {ops rest : List Oper} {Q : Post} {f : Env} {L : List HP} {o : Oper}
theorem y {d : Tmp} [IsY o d] (h : opsS P n ops (o :: rest) Q f L) : opsS P n ops (o :: rest) Q f L := h
theorem g [IsG o] (h : opsS P n ops (o :: rest) Q f L) : opsS P n ops (o :: rest) Q f L := h
theorem s [IsS o] (h : opsS P n ops (o :: rest) Q f L) : opsS P n ops (o :: rest) Q f L := h
theorem a [IsA o] (h : opsS P n ops (o :: rest) Q f L) : opsS P n ops (o :: rest) Q f L := h
end
end GQ
namespace Q
section
variable {P : Program} {n : Nat} {ops rest : List Oper} {Q : Post} {f : Env} {A L : List HP} {E cs σ : List Nat} {listed : Array Bool} {held : Bool}
variable {d : Tmp} {op : Op} {ty : TypeId} {pos : String} {af : Array Edge} {g : Option (Nat × Bool)} {v : Value}
theorem y {o : Oper} {d : Tmp} [h : IsY o d] (hk : opsS P n ops rest Q (upd f d v) L) (hy : YieldS P n ops o f L v := by first | (apply QY.mv; first | exact Y.mv rfl) | (apply QY.as_; first | exact Y.as rfl) | (apply QY.l1; first | exact Y.ld rfl rfl | exact Y.ldM rfl (by assumption) (by rfl) | exact Y.ldM0 rfl (by assumption) | exact Y.ldR rfl (by assumption) | exact Y.ldR rfl (RdC.sub (by assumption))) | (apply QY.fa; exact Y.fa rfl rfl (by decide)) | (apply QY.ia; first | exact Y.ia rfl rfl rfl (by omega) | exact Y.iaa rfl rfl rfl (by omega) | exact Y.iac rfl rfl (by first | omega | exact Nat.le_of_ble_eq_true rfl) | exact Y.iaac rfl rfl rfl) | (apply QY.eq; first | (apply Y.eqi; rfl; rfl) | (apply Y.eqp; rfl; rfl) | (apply Y.eqs; rfl; rfl) | (apply Y.eqB; rfl; rfl) | (apply Y.eqst; rfl; rfl)) | (apply QY.ne; first | (apply Y.nei; rfl; rfl) | (apply Y.nep; rfl; rfl) | (apply Y.nes; rfl; rfl) | (apply Y.neB; rfl; rfl) | (apply Y.nest; rfl; rfl)) | (apply QY.lt; exact Y.lss rfl rfl) | (apply QY.pk; first | (apply Y.pk_t; rfl; rfl) | (apply Y.pk_f; rfl; rfl) | exact Y.pk rfl rfl rfl) | (apply QY.nc; exact Y.nc rfl) | (apply QY.ln; first | exact Y.len rfl | exact Y.mlen rfl) | (apply QY.ex; exact Y.ext rfl rfl) | (apply QY.ad; exact Y.addi rfl rfl rfl (by omega) (by omega)) | (apply QY.lN; first | exact Y.ldN rfl (by repeat (first | exact nz | (apply cz; exact rfl) | exact rfl)) (by rfl) | exact Y.ldMN rfl (by assumption) (by rfl) | exact Y.ldRN rfl (by assumption) (by rfl) | exact Y.ldRN rfl (RdC.sub (by assumption)) (by rfl)) | (apply QY.no; exact Y.not rfl) | (apply QY.ge; exact Y.geq rfl rfl) | (apply QY.gt; exact Y.gtr rfl rfl) | (apply QY.le; exact Y.leq rfl rfl) | (apply QY.sb; exact Y.subi rfl rfl rfl (by omega) (by omega)) | (apply QY.mi; exact Y.min rfl rfl) | (apply QY.ma; exact Y.max rfl rfl) | (apply QY.bd; first | (apply Y.bd; rfl; rfl; rfl; exact (by repeat (first | exact nz | (apply cz; exact rfl) | exact rfl))) | (apply Y.bda; rfl; rfl; rfl; exact (by repeat (first | exact nz | (apply cz; exact rfl) | exact rfl))))) : opsS P n ops (o :: rest) Q f L := S.y' h.dst hy hk
theorem st {o : Oper} {L' : List HP} [IsS o] (hk : opsS P n ops rest Q f L')
    (h : (∀ rest Q, opsS P n ops rest Q f L' → opsS P n ops (o :: rest) Q f L) := by intro rest Q hk; first | exact S.st1 rfl rfl rfl rfl (by repeat (first | exact nz | (apply cz; exact rfl) | exact rfl)) hk | exact S.st rfl rfl (by repeat (first | exact nz | (apply cz; exact rfl) | exact rfl)) (by rfl) (by rfl) (by rfl) (by repeat (first | exact nz | (apply cz; exact rfl) | exact rfl)) hk) : opsS P n ops (o :: rest) Q f L := h _ _ hk
theorem al {o : Oper} {f' : Nat → Env} {L' : Nat → List HP} [IsA o] (hk : ∀ b, opsS P n ops rest Q (f' b) (L' b))
    (h : (∀ rest Q, (∀ b, opsS P n ops rest Q (f' b) (L' b)) → opsS P n ops (o :: rest) Q f L) := by intro rest Q hk; first | exact S.al hk | exact S.bs rfl rfl rfl rfl (by repeat (first | exact nz | (apply cz; exact rfl) | exact rfl)) hk | exact S.bx rfl (by repeat (first | exact nz | (apply cz; exact rfl) | exact rfl)) hk) : opsS P n ops (o :: rest) Q f L := h _ _ hk
theorem gq {o : Oper} {l' : List Oper} {f' : Env} [IsG o] (hk : opsS P n ops l' Q f' L)
    (h : (∀ Q, opsS P n ops l' Q f' L → opsS P n ops (o :: rest) Q f L) := by intro Q hk; first | exact S.guard rfl hk | exact S.gskip1 rfl hk | exact S.gskip rfl hk | exact S.y (Y.gskipU rfl) hk) : opsS P n ops (o :: rest) Q f L := h _ hk
theorem gd {o : Oper} {l' : List Oper} {f' : Env} [IsG o] (hk : opsS P n ops l' Q f' L)
    (h : (∀ Q, opsS P n ops l' Q f' L → opsS P n ops (o :: rest) Q f L) := by intro Q hk; first | exact S.gT rfl rfl (by simp only [Option.isNone_some, Option.isNone_none, decide_eq_true_eq, decide_eq_false_iff_not, beq_iff_eq, bne_iff_ne, beq_eq_false_iff_ne, Bool.not_eq_true', Bool.not_eq_false', Bool.not_true, Bool.not_false, beq_true, beq_false, true_and, and_true, false_and, and_false, or_false, false_or, true_or, or_true, not_true_eq_false, not_false_eq_true, Bool.true_eq_false, Bool.false_eq_true] at *; first | done | omega) hk | exact S.gF rfl rfl (by simp only [Option.isNone_some, Option.isNone_none, decide_eq_true_eq, decide_eq_false_iff_not, beq_iff_eq, bne_iff_ne, beq_eq_false_iff_ne, Bool.not_eq_true', Bool.not_eq_false', Bool.not_true, Bool.not_false, beq_true, beq_false, true_and, and_true, false_and, and_false, or_false, false_or, true_or, or_true, not_true_eq_false, not_false_eq_true, Bool.true_eq_false, Bool.false_eq_true] at *; first | done | omega) hk) : opsS P n ops (o :: rest) Q f L := h _ hk
theorem ct {c : Operand} {x y : Code} {b : Bool} (hc : ev f c = some (.bool b)) (h : swp P n x Q f L) (hb : b = true := by simp only [Option.isNone_some, Option.isNone_none, decide_eq_true_eq, decide_eq_false_iff_not, beq_iff_eq, bne_iff_ne, beq_eq_false_iff_ne, Bool.not_eq_true', Bool.not_eq_false', Bool.not_true, Bool.not_false, beq_true, beq_false, true_and, and_true, false_and, and_false, or_false, false_or, true_or, or_true, not_true_eq_false, not_false_eq_true, Bool.true_eq_false, Bool.false_eq_true] at *; first | done | omega) : swp P n (.cond c x y) Q f L := swp_cond_t hc hb h
theorem cf {c : Operand} {x y : Code} {b : Bool} (hc : ev f c = some (.bool b)) (h : swp P n y Q f L) (hb : b = false := by simp only [Option.isNone_some, Option.isNone_none, decide_eq_true_eq, decide_eq_false_iff_not, beq_iff_eq, bne_iff_ne, beq_eq_false_iff_ne, Bool.not_eq_true', Bool.not_eq_false', Bool.not_true, Bool.not_false, beq_true, beq_false, true_and, and_true, false_and, and_false, or_false, false_or, true_or, or_true, not_true_eq_false, not_false_eq_true, Bool.true_eq_false, Bool.false_eq_true] at *; first | done | omega) : swp P n (.cond c x y) Q f L := swp_cond_f hc hb h
theorem dy {i : Nat} (hi : ops[i]? = some ⟨some d, op, ty, pos, af, g⟩) (h9 : Nat.beq i 99999 = false) (hE : E.contains i = false) (h : drawS P n ops E cs A σ Q (listed.setIfInBounds i true) true (upd f d v) L)
    (hc : (cs.all fun m => m != i && (ops.toArray[m]?).isSome && reach ops.toArray 4 i m) = true := by kernel_rfl) (hy : YieldS P n ops ⟨some d, op, ty, pos, af, g⟩ f A v := by first | (first | (apply QY.mv; first | exact Y.mv rfl) | (apply QY.as_; first | exact Y.as rfl) | (apply QY.l1; first | exact Y.ld rfl rfl | exact Y.ldM rfl (by assumption) (by rfl) | exact Y.ldM0 rfl (by assumption) | exact Y.ldR rfl (by assumption) | exact Y.ldR rfl (RdC.sub (by assumption))) | (apply QY.fa; exact Y.fa rfl rfl (by decide)) | (apply QY.ia; first | exact Y.ia rfl rfl rfl (by omega) | exact Y.iaa rfl rfl rfl (by omega) | exact Y.iac rfl rfl (by first | omega | exact Nat.le_of_ble_eq_true rfl) | exact Y.iaac rfl rfl rfl) | (apply QY.eq; first | (apply Y.eqi; rfl; rfl) | (apply Y.eqp; rfl; rfl) | (apply Y.eqs; rfl; rfl) | (apply Y.eqB; rfl; rfl) | (apply Y.eqst; rfl; rfl)) | (apply QY.ne; first | (apply Y.nei; rfl; rfl) | (apply Y.nep; rfl; rfl) | (apply Y.nes; rfl; rfl) | (apply Y.neB; rfl; rfl) | (apply Y.nest; rfl; rfl)) | (apply QY.lt; exact Y.lss rfl rfl) | (apply QY.pk; first | (apply Y.pk_t; rfl; rfl) | (apply Y.pk_f; rfl; rfl) | exact Y.pk rfl rfl rfl) | (apply QY.nc; exact Y.nc rfl) | (apply QY.ln; first | exact Y.len rfl | exact Y.mlen rfl) | (apply QY.ex; exact Y.ext rfl rfl) | (apply QY.ad; exact Y.addi rfl rfl rfl (by omega) (by omega)) | (apply QY.lN; first | exact Y.ldN rfl (by repeat (first | exact nz | (apply cz; exact rfl) | exact rfl)) (by rfl) | exact Y.ldMN rfl (by assumption) (by rfl) | exact Y.ldRN rfl (by assumption) (by rfl) | exact Y.ldRN rfl (RdC.sub (by assumption)) (by rfl)) | (apply QY.no; exact Y.not rfl) | (apply QY.ge; exact Y.geq rfl rfl) | (apply QY.gt; exact Y.gtr rfl rfl) | (apply QY.le; exact Y.leq rfl rfl) | (apply QY.sb; exact Y.subi rfl rfl rfl (by omega) (by omega)) | (apply QY.mi; exact Y.min rfl rfl) | (apply QY.ma; exact Y.max rfl rfl) | (apply QY.bd; first | (apply Y.bd; rfl; rfl; rfl; exact (by repeat (first | exact nz | (apply cz; exact rfl) | exact rfl))) | (apply Y.bda; rfl; rfl; rfl; exact (by repeat (first | exact nz | (apply cz; exact rfl) | exact rfl))))) | exact Y.guard rfl (by first | (apply QY.mv; first | exact Y.mv rfl) | (apply QY.as_; first | exact Y.as rfl) | (apply QY.l1; first | exact Y.ld rfl rfl | exact Y.ldM rfl (by assumption) (by rfl) | exact Y.ldM0 rfl (by assumption) | exact Y.ldR rfl (by assumption) | exact Y.ldR rfl (RdC.sub (by assumption))) | (apply QY.fa; exact Y.fa rfl rfl (by decide)) | (apply QY.ia; first | exact Y.ia rfl rfl rfl (by omega) | exact Y.iaa rfl rfl rfl (by omega) | exact Y.iac rfl rfl (by first | omega | exact Nat.le_of_ble_eq_true rfl) | exact Y.iaac rfl rfl rfl) | (apply QY.eq; first | (apply Y.eqi; rfl; rfl) | (apply Y.eqp; rfl; rfl) | (apply Y.eqs; rfl; rfl) | (apply Y.eqB; rfl; rfl) | (apply Y.eqst; rfl; rfl)) | (apply QY.ne; first | (apply Y.nei; rfl; rfl) | (apply Y.nep; rfl; rfl) | (apply Y.nes; rfl; rfl) | (apply Y.neB; rfl; rfl) | (apply Y.nest; rfl; rfl)) | (apply QY.lt; exact Y.lss rfl rfl) | (apply QY.pk; first | (apply Y.pk_t; rfl; rfl) | (apply Y.pk_f; rfl; rfl) | exact Y.pk rfl rfl rfl) | (apply QY.nc; exact Y.nc rfl) | (apply QY.ln; first | exact Y.len rfl | exact Y.mlen rfl) | (apply QY.ex; exact Y.ext rfl rfl) | (apply QY.ad; exact Y.addi rfl rfl rfl (by omega) (by omega)) | (apply QY.lN; first | exact Y.ldN rfl (by repeat (first | exact nz | (apply cz; exact rfl) | exact rfl)) (by rfl) | exact Y.ldMN rfl (by assumption) (by rfl) | exact Y.ldRN rfl (by assumption) (by rfl) | exact Y.ldRN rfl (RdC.sub (by assumption)) (by rfl)) | (apply QY.no; exact Y.not rfl) | (apply QY.ge; exact Y.geq rfl rfl) | (apply QY.gt; exact Y.gtr rfl rfl) | (apply QY.le; exact Y.leq rfl rfl) | (apply QY.sb; exact Y.subi rfl rfl rfl (by omega) (by omega)) | (apply QY.mi; exact Y.min rfl rfl) | (apply QY.ma; exact Y.max rfl rfl) | (apply QY.bd; first | (apply Y.bd; rfl; rfl; rfl; exact (by repeat (first | exact nz | (apply cz; exact rfl) | exact rfl))) | (apply Y.bda; rfl; rfl; rfl; exact (by repeat (first | exact nz | (apply cz; exact rfl) | exact rfl)))))) : drawS P n ops E cs A (i :: σ) Q listed true f L := D.y hi h9 hE hc hy h
theorem dp {i : Nat} (hi : ops[i]? = some ⟨some d, op, ty, pos, af, g⟩) (h9 : Nat.beq i 99999 = false) (hE : E.contains i = false) (h : drawS P n ops E cs A σ Q (listed.setIfInBounds i true) held (upd f d v) L)
    (hy : YieldS P n ops ⟨some d, op, ty, pos, af, g⟩ f [] v := by first | (first | (apply QY.mv; first | exact Y.mv rfl) | (apply QY.as_; first | exact Y.as rfl) | (apply QY.l1; first | exact Y.ld rfl rfl | exact Y.ldM rfl (by assumption) (by rfl) | exact Y.ldM0 rfl (by assumption) | exact Y.ldR rfl (by assumption) | exact Y.ldR rfl (RdC.sub (by assumption))) | (apply QY.fa; exact Y.fa rfl rfl (by decide)) | (apply QY.ia; first | exact Y.ia rfl rfl rfl (by omega) | exact Y.iaa rfl rfl rfl (by omega) | exact Y.iac rfl rfl (by first | omega | exact Nat.le_of_ble_eq_true rfl) | exact Y.iaac rfl rfl rfl) | (apply QY.eq; first | (apply Y.eqi; rfl; rfl) | (apply Y.eqp; rfl; rfl) | (apply Y.eqs; rfl; rfl) | (apply Y.eqB; rfl; rfl) | (apply Y.eqst; rfl; rfl)) | (apply QY.ne; first | (apply Y.nei; rfl; rfl) | (apply Y.nep; rfl; rfl) | (apply Y.nes; rfl; rfl) | (apply Y.neB; rfl; rfl) | (apply Y.nest; rfl; rfl)) | (apply QY.lt; exact Y.lss rfl rfl) | (apply QY.pk; first | (apply Y.pk_t; rfl; rfl) | (apply Y.pk_f; rfl; rfl) | exact Y.pk rfl rfl rfl) | (apply QY.nc; exact Y.nc rfl) | (apply QY.ln; first | exact Y.len rfl | exact Y.mlen rfl) | (apply QY.ex; exact Y.ext rfl rfl) | (apply QY.ad; exact Y.addi rfl rfl rfl (by omega) (by omega)) | (apply QY.lN; first | exact Y.ldN rfl (by repeat (first | exact nz | (apply cz; exact rfl) | exact rfl)) (by rfl) | exact Y.ldMN rfl (by assumption) (by rfl) | exact Y.ldRN rfl (by assumption) (by rfl) | exact Y.ldRN rfl (RdC.sub (by assumption)) (by rfl)) | (apply QY.no; exact Y.not rfl) | (apply QY.ge; exact Y.geq rfl rfl) | (apply QY.gt; exact Y.gtr rfl rfl) | (apply QY.le; exact Y.leq rfl rfl) | (apply QY.sb; exact Y.subi rfl rfl rfl (by omega) (by omega)) | (apply QY.mi; exact Y.min rfl rfl) | (apply QY.ma; exact Y.max rfl rfl) | (apply QY.bd; first | (apply Y.bd; rfl; rfl; rfl; exact (by repeat (first | exact nz | (apply cz; exact rfl) | exact rfl))) | (apply Y.bda; rfl; rfl; rfl; exact (by repeat (first | exact nz | (apply cz; exact rfl) | exact rfl))))) | exact Y.gskip rfl | exact Y.gskipU rfl | exact Y.guard rfl (by first | (apply QY.mv; first | exact Y.mv rfl) | (apply QY.as_; first | exact Y.as rfl) | (apply QY.l1; first | exact Y.ld rfl rfl | exact Y.ldM rfl (by assumption) (by rfl) | exact Y.ldM0 rfl (by assumption) | exact Y.ldR rfl (by assumption) | exact Y.ldR rfl (RdC.sub (by assumption))) | (apply QY.fa; exact Y.fa rfl rfl (by decide)) | (apply QY.ia; first | exact Y.ia rfl rfl rfl (by omega) | exact Y.iaa rfl rfl rfl (by omega) | exact Y.iac rfl rfl (by first | omega | exact Nat.le_of_ble_eq_true rfl) | exact Y.iaac rfl rfl rfl) | (apply QY.eq; first | (apply Y.eqi; rfl; rfl) | (apply Y.eqp; rfl; rfl) | (apply Y.eqs; rfl; rfl) | (apply Y.eqB; rfl; rfl) | (apply Y.eqst; rfl; rfl)) | (apply QY.ne; first | (apply Y.nei; rfl; rfl) | (apply Y.nep; rfl; rfl) | (apply Y.nes; rfl; rfl) | (apply Y.neB; rfl; rfl) | (apply Y.nest; rfl; rfl)) | (apply QY.lt; exact Y.lss rfl rfl) | (apply QY.pk; first | (apply Y.pk_t; rfl; rfl) | (apply Y.pk_f; rfl; rfl) | exact Y.pk rfl rfl rfl) | (apply QY.nc; exact Y.nc rfl) | (apply QY.ln; first | exact Y.len rfl | exact Y.mlen rfl) | (apply QY.ex; exact Y.ext rfl rfl) | (apply QY.ad; exact Y.addi rfl rfl rfl (by omega) (by omega)) | (apply QY.lN; first | exact Y.ldN rfl (by repeat (first | exact nz | (apply cz; exact rfl) | exact rfl)) (by rfl) | exact Y.ldMN rfl (by assumption) (by rfl) | exact Y.ldRN rfl (by assumption) (by rfl) | exact Y.ldRN rfl (RdC.sub (by assumption)) (by rfl)) | (apply QY.no; exact Y.not rfl) | (apply QY.ge; exact Y.geq rfl rfl) | (apply QY.gt; exact Y.gtr rfl rfl) | (apply QY.le; exact Y.leq rfl rfl) | (apply QY.sb; exact Y.subi rfl rfl rfl (by omega) (by omega)) | (apply QY.mi; exact Y.min rfl rfl) | (apply QY.ma; exact Y.max rfl rfl) | (apply QY.bd; first | (apply Y.bd; rfl; rfl; rfl; exact (by repeat (first | exact nz | (apply cz; exact rfl) | exact rfl))) | (apply Y.bda; rfl; rfl; rfl; exact (by repeat (first | exact nz | (apply cz; exact rfl) | exact rfl)))))) : drawS P n ops E cs A (i :: σ) Q listed held f L := D.yp hi h9 hE hy h
theorem endH {L2 : List HP} (h : Q .normal f L2) (hL : A ++ L = L2 := by repeat (first | exact nz | (apply cz; exact rfl) | exact rfl)) : drawS P n ops E cs A [] Q listed true f L := D.endH hL h
theorem dgo {id : Nat} (mask : List Bool) (E cs σ : List Nat) {L1 : List HP} [hq : NoPanic Q] (h : drawS P n ops E cs A σ Q (Array.replicate ops.length false) true f L1) (hm : P.follows .mixedOrders = true := by rfl) (hs : Region.noSelect ops.toArray = true := by kernel_rfl) (hl : σ.length = ops.length := by rfl) (ho : ordOK ops.toArray E cs σ (Array.replicate ops.length false) = true := by kernel_rfl)
    (hA : maskA mask L = A := by repeat (first | apply mat | apply maf | exact man)) (hL : maskL mask L = L1 := by repeat (first | apply mlt | apply mlf | exact mln)) : swp P n (.region id ops.toArray true) Q f L := D.go mask E cs σ hm hs hl ho hq.no hA hL h
theorem dc {i : Nat} {o : Oper} {L2 : List HP} (hi : ops[i]? = some o) (h9 : Nat.beq i 99999 = false) (hE : E.contains i = true) (hc : cs.contains i = true)
    (h : opsS P n ops [o] (thenS (fun f L => drawS P n ops E cs A σ Q (listed.setIfInBounds i true) false f L) (fun _ _ _ => False)) f L2) (hL : A ++ L = L2 := by repeat (first | exact nz | (apply cz; exact rfl) | exact rfl)) : drawS P n ops E cs A (i :: σ) Q listed true f L := D.c hi h9 hE hc hL h
end
theorem go {A B : Prop} (hk : B) (h : B → A := by (intro hk; first | exact N.tn hk | exact N.tr hk | exact N.te hk | exact N.bn hk | exact N.br hk | exact N.be hk | exact N.bx rfl hk | exact swp_seq hk | exact swp_region hk | exact opsS_nil hk | exact swp_ret hk | exact swp_skip hk | exact swp_exit hk | exact swp_block hk | exact swp_cond_true rfl hk | exact swp_cond_false rfl hk)) : A := h hk
structure W (B : Prop) : Prop where
  x : B
theorem r {A B : Prop} (hk : B) (h : W B → A := by intro hk; (repeat (first | (refine GQ.y ?_; refine Q.y ?_) | refine Q.go ?_ | (refine GQ.g ?_; refine Q.gq ?_) | (refine GQ.s ?_; refine Q.st ?_) | (refine GQ.g ?_; refine Q.gd ?_) | refine Q.ct rfl ?_ | refine Q.cf rfl ?_)); (first | (refine GQ.a ?_; refine Q.al ?_; exact hk.x) | exact hk.x)) : A := h ⟨hk⟩
theorem rd {A B : Prop} (hk : B) (h : W B → A := by intro hk; (repeat (first | (refine opsS_nil ?_; refine N.tn ?_) | refine D.endA ?_ | refine Q.dy rfl rfl rfl ?_ | refine Q.dp rfl rfl rfl ?_ | refine D.end_ ?_ | refine Q.endH ?_ | (refine D.e rfl rfl rfl ?_; (first | refine S.gskip1 rfl ?_ | refine S.gskip rfl ?_ | refine S.y (Y.gskipU rfl) ?_); refine opsS_nil ?_; refine N.tn ?_) | refine Q.dT rfl rfl rfl ?_ | refine Q.dF rfl rfl rfl ?_ | (refine D.e rfl rfl rfl ?_; (refine GQ.s ?_; refine Q.st ?_); refine opsS_nil ?_; refine N.tn ?_))); (first | (refine D.e rfl rfl rfl ?_; refine GQ.a ?_; refine Q.al ?_; exact hk.x) | exact hk.x)) : A := h ⟨hk⟩
end Q
end Go.SX
namespace Go.SX
open Go
theorem RdS.from2 {L : List HP} {b o m c l sz : Nat} {cs : List Value} (h : RdS L (some ⟨b, o, none⟩) m sz cs) (h1 : l ≤ m) (h2 : m ≤ c) : RdS L (some ⟨b, if c = l then o else o + l * sz, none⟩) (m - l) sz (cs.drop (l * sz)) := by
  rcases h.2 with h0 | ⟨b', o', e, r⟩
  · exact ⟨by rw [List.length_drop, h.1, Nat.sub_mul], .inl (by omega)⟩
  · cases e; exact RdS.from r h.1 h1 h2
class PickS (a : Option Addr) (L : List HP) (t sz m c : outParam Nat) (cs : outParam (List Value)) (L0 : outParam (List HP)) : Prop where
  ent : Ent L (slO t sz a m c cs :: L0)
instance PickS.here {a : Option Addr} {t sz m c : Nat} {cs : List Value} {L : List HP} : PickS a (slO t sz a m c cs :: L) t sz m c cs L := ⟨Ent.refl _⟩
instance (priority := low) PickS.there {a : Option Addr} {t sz m c : Nat} {cs : List Value} {B : HP} {L L0 : List HP} [h : PickS a L t sz m c cs L0] : PickS a (B :: L) t sz m c cs (B :: L0) := ⟨(h.ent.cons).trans (Ent.perm (.swap _ _ _))⟩
section
variable {P : Program} {n : Nat} {ops rest : List Oper} {cd : Code} {Q : Post} {f : Env} {t sz m c : Nat} {cs : List Value} {L L0 L1 : List HP} {M : Nat → Option Obj}
theorem swp_abs (a : Option Addr) [h : PickS a L t sz m c cs L0] [h1 : PickM L0 M L1] (hk : ∀ M', leM M M' → SlM M' a m sz cs → swp P n cd Q f (roM M' :: L1)) : swp P n cd Q f L :=
  swp_ent h.ent (swp_absorb hk)
theorem opsS_abs (a : Option Addr) [h : PickS a L t sz m c cs L0] [h1 : PickM L0 M L1] (hk : ∀ M', leM M M' → SlM M' a m sz cs → opsS P n ops rest Q f (roM M' :: L1)) : opsS P n ops rest Q f L :=
  opsS_ent h.ent (opsS_absorb hk)
end
end Go.SX
namespace Go.SX
open Go
section
variable {P : Program} {n : Nat} {ops rest : List Oper} {Q : Post} {f : Env} {L : List HP}
variable {d : Tmp} {ty : TypeId} {pos : String} {af : Array Edge}
end
end Go.SX
namespace Go.SX
open Go
section
variable {P : Program} {n : Nat} {ops rest : List Oper} {Q : Post} {f : Env} {L : List HP}
variable {d : Tmp} {ty : TypeId} {pos : String} {af : Array Edge}
theorem Y.mf {A : List HP} {fn : Fn} {fs cs : Array Operand} {fl cl : List Value} (hf : argsL f fs.toList = some fl) (hc : argsL f cs.toList = some cl) : YieldS P n ops ⟨some d, .makeFunc fn fs cs, ty, pos, af, none⟩ f A (.func fn fl.toArray cl.toArray) := by
  refine Y.of (fun a w s => ?_)
  have e1 : fs.map a.eval = fl.toArray := by obtain ⟨l⟩ := fs; simp [argsL_eq s hf]
  have e2 : cs.map a.eval = cl.toArray := by obtain ⟨l⟩ := cs; simp [argsL_eq s hc]
  simp [execOp, Instr.makeFunc, e1, e2]
theorem S.callF {dd : Option Tmp} {x : Operand} {g : FuncId} {xs : Array Operand} {ats : Array TypeId} {fs args cs : List Value} {L1 L2 : List HP} {R : Value → List HP → Prop} [he : Enters P g] (hv : ev f x = some (.func (.func g) fs.toArray cs.toArray))
    (hx : argsL f xs.toList = some args) (hc : CallsS P g (fs ++ args ++ cs) L1 R) (hL : Ent L (L1 ++ L2)) (hk : ∀ v L', R v L' → opsS P n ops rest Q (updo f dd v) (L' ++ L2)) :
    opsS P n ops (⟨dd, .call ⟨.value x, xs, ats⟩, ty, pos, af, none⟩ :: rest) Q f L := by
  intro ok F a w s t
  simp only [okOps, List.all_cons, Bool.and_eq_true] at ok
  refine wpList_plain rfl fun K hK => ?_
  have hr : (execOp a.eval ⟨dd, .call ⟨.value x, xs, ats⟩, ty, pos, af, none⟩).run P w = .ok (.enter g (fs ++ args ++ cs).toArray) w := by
    have : xs.map a.eval = args.toArray := by
      obtain ⟨xl⟩ := xs
      simp [argsL_eq s hx]
    simp [execOp, resolve, Deferred.ofValue, invoke, this, he.run, s.eval hv]
  simp only [Oper.wp, hr, Oper.upon]
  have H1 := hL w F t
  rw [List.append_assoc] at H1
  refine (hc (L2 ++ F) w H1).mono ?_
  rintro e w' ⟨v, L', rfl, t', r⟩
  exact hK _ _ (hk v L' r ok.2 F _ _ (s.put ok.1 v) (by rwa [List.append_assoc]))
theorem S.crF {x : Operand} {g : FuncId} {xs : Array Operand} {ats : Array TypeId} {fs args cs : List Value} {R : Value → List HP → Prop} [he : Enters P g] (hv : ev f x = some (.func (.func g) fs.toArray cs.toArray))
    (hx : argsL f xs.toList = some args) (hc : CallsS P g (fs ++ args ++ cs) L R) (hk : ∀ v L', R v L' → opsS P n ops rest Q (upd f d v) L') :
    opsS P n ops (⟨some d, .call ⟨.value x, xs, ats⟩, ty, pos, af, none⟩ :: rest) Q f L :=
  S.callF (dd := some d) (L1 := L) (L2 := []) hv hx hc (by simpa using Ent.refl L) (fun v L' r => by simpa [updo] using hk v L' r)
end
section
variable {κ α : Type} {g : κ → Value} {rr : α → Value}
def itP (g : κ → Value) (rr : α → Value) (m : List (κ × α)) (vis : List Nat) (x : Array MapEntry × Nat) : Prop :=
  entsOK g rr m x.1.toList x.2 ∧ vis.Nodup ∧ ∀ i ∈ vis, i < m.length
def itO (g : κ → Value) (rr : α → Value) (b r : Nat) (m : List (κ × α)) (vis : List Nat) : HP :=
  exH fun x : Array MapEntry × Nat => allH [pureH (itP g rr m vis x), pt b (.map x.1 x.2), pt r (.mapIter (some b) x.2 ((vis.map fun i => (x.1[i]!).born).toArray) x.2)]
end
class FindIt (r : Nat) (L : List HP) {κ α : outParam Type} (g : outParam (κ → Value)) (rr : outParam (α → Value)) (b : outParam Nat) (m : outParam (List (κ × α))) (vis : outParam (List Nat)) (L' : outParam (HP → List HP)) : Prop where
  at_ : ∃ R, L.Perm (itO g rr b r m vis :: R) ∧ ∀ x, (x :: R).Perm (L' x)
instance FindIt.here {κ α : Type} {r b : Nat} {g : κ → Value} {rr : α → Value} {m : List (κ × α)} {vis : List Nat} {L : List HP} : FindIt r (itO g rr b r m vis :: L) g rr b m vis (fun x => x :: L) := ⟨L, .refl _, fun _ => .refl _⟩
instance (priority := low) FindIt.there {κ α : Type} {r b : Nat} {g : κ → Value} {rr : α → Value} {m : List (κ × α)} {vis : List Nat} {A : HP} {L : List HP} {L' : HP → List HP} [h : FindIt r L g rr b m vis L'] : FindIt r (A :: L) g rr b m vis (fun x => A :: L' x) := by
  obtain ⟨R, h1, h2⟩ := h.at_
  exact ⟨A :: R, (h1.cons A).trans (.swap _ _ _), fun x => List.Perm.trans (.swap _ _ _) ((h2 x).cons A)⟩
section
variable {κ α : Type} {g : κ → Value} {rr : α → Value} {m : List (κ × α)} {vis : List Nat}
theorem itO_shut {b r : Nat} {L : List HP} {x : Array MapEntry × Nat} (h : itP g rr m vis x) : Ent (pt b (.map x.1 x.2) :: pt r (.mapIter (some b) x.2 ((vis.map fun i => (x.1[i]!).born).toArray) x.2) :: L) (itO g rr b r m vis :: L) :=
  Ent.trans (Ent.shut_pure h) (Ent.trans (Ent.shut_all (L := [_, _, _])) (Ent.shut_ex (P := fun x : Array MapEntry × Nat => allH [pureH (itP g rr m vis x), pt b (.map x.1 x.2), pt r (.mapIter (some b) x.2 ((vis.map fun i => (x.1[i]!).born).toArray) x.2)]) x))
theorem St.it_open {w : World} {b r : Nat} {L : List HP} (H : St w (itO g rr b r m vis :: L)) : ∃ x, itP g rr m vis x ∧ St w (pt b (.map x.1 x.2) :: pt r (.mapIter (some b) x.2 ((vis.map fun i => (x.1[i]!).born).toArray) x.2) :: L) := by
  obtain ⟨x, H⟩ := St.open_ex H
  have H := Ent.open_all (L := [_, _, _]) (M := L) w [] (by simpa using H)
  obtain ⟨h, H⟩ := St.open_pure (by simpa using H)
  exact ⟨x, h, H⟩
theorem itO_map {b r : Nat} {L : List HP} : Ent (itO g rr b r m vis :: L) (mpO g rr b m :: L) := fun w F H => by
  obtain ⟨x, h, H⟩ := St.it_open (L := L ++ F) H
  refine St.mp_shut (es := x.1) (clock := x.2) h.1 ?_
  exact (St.perm (.swap _ _ _) H).tail
theorem FindIt.open_ {r b : Nat} {L F : List HP} {L' : HP → List HP} (h : FindIt r L g rr b m vis L') {w : World} (H : St w (L ++ F)) : ∃ R x, itP g rr m vis x ∧ St w (pt b (.map x.1 x.2) :: pt r (.mapIter (some b) x.2 ((vis.map fun i => (x.1[i]!).born).toArray) x.2) :: (R ++ F)) ∧ ∀ y w, St w (y :: (R ++ F)) → St w (L' y ++ F) := by
  obtain ⟨R, p1, p2⟩ := h.at_
  have H1 : St w (itO g rr b r m vis :: (R ++ F)) := by simpa using St.perm (p1.append_right F) H
  obtain ⟨x, k, H2⟩ := St.it_open H1
  exact ⟨R, x, k, H2, fun x w H => St.perm ((p2 x).append_right F) (by simpa using H)⟩
theorem ents_at {es : Array MapEntry} {clock : Nat} (h : entsOK g rr m es.toList clock) {i : Nat} (hi : i < m.length) : ∃ (e : MapEntry) (p : κ × α), es.toList[i]? = some e ∧ m[i]? = some p ∧ es[i]! = e ∧ e.key = g p.1 ∧ e.val = rr p.2 := by
  have hl : es.toList.length = m.length := by have := congrArg List.length h.1; simpa using this
  have hi' : i < es.toList.length := by omega
  refine ⟨es.toList[i], m[i], List.getElem?_eq_getElem hi', List.getElem?_eq_getElem hi, by simp [getElem!_def, show i < es.size by simpa using hi'], ?_⟩
  have := congrArg (fun l => l[i]?) h.1
  simp [hi, show i < es.size by simpa using hi'] at this
  simpa using this
theorem born_inj {es : Array MapEntry} {clock : Nat} (h : entsOK g rr m es.toList clock) {i j : Nat} (hi : i < es.size) (hj : j < es.size) (e : (es[i]!).born = (es[j]!).born) : i = j := by
  have h3 := h.2.2.1
  rw [List.pairwise_map] at h3
  rw [List.pairwise_iff_getElem] at h3
  have gi : es[i]! = es.toList[i]'(by simpa using hi) := by simp [getElem!_def, hi]
  have gj : es[j]! = es.toList[j]'(by simpa using hj) := by simp [getElem!_def, hj]
  rw [gi, gj] at e
  rcases Nat.lt_trichotomy i j with h | h | h
  · have := h3 i j (by simpa using hi) (by simpa using hj) h; omega
  · exact h
  · have := h3 j i (by simpa using hj) (by simpa using hi) h; omega
end
section
variable {κ α : Type} {g : κ → Value} {rr : α → Value} {m : List (κ × α)} {vis : List Nat}
variable {P : Program} {n : Nat} {ops rest : List Oper} {Q : Post} {f : Env} {L : List HP}
variable {d : Tmp} {ty : TypeId} {pos : String} {af : Array Edge}
theorem S.rg {x : Operand} {t kt e : TypeId} {b : Nat} {L' : HP → List HP} [h : MapTy P t kt e] [hm : FindMp b L g rr m L'] (hx : ev f x = some (.map (some b)))
    (hk : ∀ r, opsS P n ops rest Q (upd f d (.pointer (some ⟨r, 0, none⟩))) (L' (itO g rr b r m []))) : opsS P n ops (⟨some d, .range t x, ty, pos, af, none⟩ :: rest) Q f L := by
  refine opsS_value (R := fun v L1 => ∃ r, v = .pointer (some ⟨r, 0, none⟩) ∧ L1 = L' (itO g rr b r m [])) (fun F a w s t0 => ?_) (by rintro _ _ ⟨r, rfl, rfl⟩; exact hk r)
  obtain ⟨R, es, clock, hes, H, hback⟩ := hm.open_ t0
  have hb := St.pt_read H
  have hget : (getObj b).run P w = .ok (.map es clock) w := MapKept.run_getObj_map hb
  refine ⟨.pointer (some ⟨w.heap.size, 0, none⟩), { w with heap := w.heap.push (.mapIter (some b) clock #[] clock) }, _, ?_, ?_, _, rfl, rfl⟩
  · simp [execOp, Instr.range, s.eval hx, h.und, hget, newObj, Sem.run]
  · refine hback _ _ ?_
    have H2 := St.pt_new (w' := { w with heap := w.heap.push (.mapIter (some b) clock #[] clock) }) H rfl
    have H3 := itO_shut (g := g) (rr := rr) (m := m) (vis := []) (b := b) (r := w.heap.size) (L := R) (x := (es, clock)) ⟨hes, by simp, by simp⟩ { w with heap := w.heap.push (.mapIter (some b) clock #[] clock) } F
    exact H3 (St.perm (.swap _ _ _) H2)
theorem left_none {es : Array MapEntry} {clock : Nat} (h : itP g rr m vis (es, clock)) (h0 : (leftOf es ((vis.map fun i => (es[i]!).born).toArray)).size = 0) : ∀ i, i < m.length → i ∈ vis := by
  intro i hi
  obtain ⟨e, p, h1, h2, h3, h4⟩ := ents_at h.1 hi
  have hl : es.size = m.length := by have := congrArg List.length h.1.1; simpa using this
  have : leftOf es ((vis.map fun i => (es[i]!).born).toArray) = #[] := Array.eq_empty_of_size_eq_zero h0
  unfold leftOf at this
  rw [Array.filter_eq_empty_iff] at this
  have hm : e ∈ es := by rw [← Array.mem_toList_iff]; exact List.mem_of_getElem? h1
  have := this e hm
  simp at this
  obtain ⟨j, hj, hb⟩ := this
  have : j = i := born_inj h.1 (by have := h.2.2 j hj; show j < es.size; omega) (by show i < es.size; omega) (by rw [hb, h3])
  rwa [← this]
theorem left_some {es : Array MapEntry} {clock : Nat} (h : itP g rr m vis (es, clock)) {e : MapEntry} (he : e ∈ (leftOf es ((vis.map fun i => (es[i]!).born).toArray)).toList) : ∃ (i : Nat) (p : κ × α), i < m.length ∧ m[i]? = some p ∧ i ∉ vis ∧ es[i]! = e ∧ e.key = g p.1 ∧ e.val = rr p.2 := by
  have hl : es.size = m.length := by have := congrArg List.length h.1.1; simpa using this
  unfold leftOf at he
  simp only [Array.toList_filter, List.mem_filter, Array.mem_toList_iff] at he
  obtain ⟨h1, h2⟩ := he
  obtain ⟨i, hi, rfl⟩ := Array.mem_iff_getElem.1 h1
  obtain ⟨e, p, g1, g2, g3, g4, g5⟩ := ents_at h.1 (i := i) (by omega)
  have ge : es[i] = e := by rw [← g3]; simp [getElem!_def, hi]
  refine ⟨i, p, by omega, g2, fun hv => ?_, by rw [ge]; exact g3, by rw [ge]; exact g4, by rw [ge]; exact g5⟩
  simp at h2
  exact h2 i hv (by rw [g3, ge])
theorem S.nx {x : Operand} {r b : Nat} {L' : HP → List HP} [hm : FindIt r L g rr b m vis L'] (hx : ev f x = some (.pointer (some ⟨r, 0, none⟩)))
    (hend : (∀ i, i < m.length → i ∈ vis) → opsS P n ops rest Q (upd f d (.tuple #[.bool false])) (L' (itO g rr b r m vis)))
    (hstep : ∀ i p, m[i]? = some p → i ∉ vis → opsS P n ops rest Q (upd f d (.tuple #[.bool true, g p.1, rr p.2])) (L' (itO g rr b r m (vis ++ [i])))) :
    opsS P n ops (⟨some d, .next x false, ty, pos, af, none⟩ :: rest) Q f L := by
  refine opsS_value (R := fun v L1 => ((∀ i, i < m.length → i ∈ vis) ∧ v = .tuple #[.bool false] ∧ L1 = L' (itO g rr b r m vis)) ∨ ∃ i p, m[i]? = some p ∧ i ∉ vis ∧ v = .tuple #[.bool true, g p.1, rr p.2] ∧ L1 = L' (itO g rr b r m (vis ++ [i])))
    (fun F a w s t0 => ?_) (by
      rintro _ _ (⟨h, rfl, rfl⟩ | ⟨i, p, h1, h2, rfl, rfl⟩)
      · exact hend h
      · exact hstep i p h1 h2)
  obtain ⟨R, ⟨es, clock⟩, hes, H, hback⟩ := hm.open_ t0
  have hb := St.pt_read H
  have hr := St.pt_read (St.perm (.swap _ _ _) H)
  dsimp only at hb hr
  rcases run_next_at (P := P) w ty r b clock clock _ es clock hr hb (fun x hx => hes.1.2.2.2 x hx) (Nat.le_refl _) with ⟨h0, hrun⟩ | ⟨e, he, w1, hw1, hrun⟩
  · refine ⟨_, w, _, by simp [execOp, s.eval hx, hrun], hback _ _ (itO_shut (L := R) hes w F H), .inl ⟨left_none hes h0, rfl, rfl⟩⟩
  · obtain ⟨i, p, h1, h2, h3, h4, h5, h6⟩ := left_some hes he
    refine ⟨.tuple #[.bool true, g p.1, rr p.2], @ChangeMaps.setBlock w1 r (.mapIter (some b) clock (((vis.map fun i => (es[i]!).born).toArray).push e.born) clock), _, by simp [execOp, s.eval hx, hrun, h5, h6], hback _ _ ?_, .inr ⟨i, p, h2, h3, rfl, rfl⟩⟩
    have e1 : w1.heap = w.heap := by rcases hw1 with rfl | rfl <;> rfl
    have e2 : SX.ext w1 = SX.ext w := by rcases hw1 with rfl | rfl <;> rfl
    have hlt : r < w.heap.size := (Array.getElem?_eq_some_iff.1 hr).1
    have H1 := St.perm (.swap _ _ _) H
    have H2 := St.pt_write (w' := @ChangeMaps.setBlock w1 r (.mapIter (some b) clock (((vis.map fun i => (es[i]!).born).toArray).push e.born) clock)) (o' := .mapIter (some b) clock (((vis.map fun i => (es[i]!).born).toArray).push e.born) clock) H1
      (by simp [ChangeMaps.setBlock, e1, hlt]) (fun k hk => by simp [ChangeMaps.setBlock, e1, Ne.symm hk]) (by rw [← e2]; rfl)
    have e3 : ((vis.map fun i => (es[i]!).born).toArray).push e.born = ((vis ++ [i]).map fun i => (es[i]!).born).toArray := by simp [h4]
    rw [e3] at H2 ⊢
    exact itO_shut (L := R) (x := (es, clock)) ⟨hes.1, List.nodup_append.2 ⟨hes.2.1, by simp, fun x hx y hy => by simp at hy; subst hy; exact fun e => h3 (e ▸ hx)⟩, fun j hj => by
      rcases List.mem_append.1 hj with hj | hj
      · exact hes.2.2 j hj
      · simp at hj; omega⟩ _ F (St.perm (.swap _ _ _) H2)
theorem Y.en {A : List HP} {x : Operand} {r b i : Nat} {p : κ × α} {A' : HP → List HP} [hm : FindIt r A g rr b m (vis ++ [i]) A'] (hx : ev f x = some (.pointer (some ⟨r, 0, none⟩))) (hp : m[i]? = some p) :
    YieldS P n ops ⟨some d, .entry x, ty, pos, af, none⟩ f A (.tuple #[g p.1, rr p.2]) := by
  refine Y.of' fun a w F s t0 => ?_
  obtain ⟨R, ⟨es, clock⟩, hes, H, hback⟩ := hm.open_ t0
  have hb := St.pt_read H
  have hr := St.pt_read (St.perm (.swap _ _ _) H)
  dsimp only at hb hr
  obtain ⟨e, p', g1, g2, g3, g4, g5⟩ := ents_at hes.1 (i := i) (List.getElem?_eq_some_iff.1 hp).1
  rw [hp] at g2
  obtain rfl := Option.some.inj g2
  have hr2 : w.heap[r]? = some (.mapIter (some b) clock (((vis.map fun i => (es[i]!).born).toArray).push e.born) clock) := by rw [hr]; simp [g3]
  have := run_entry_at (P := P) w r b clock _ es clock e hr2 hb (List.mem_of_getElem? g1) ((hes.1.2.2.1.imp fun h => Nat.ne_of_lt h))
  simp [execOp, s.eval hx, this, g4, g5]
end
theorem vis_perm {vis : List Nat} {k : Nat} (h1 : vis.Nodup) (h2 : ∀ i ∈ vis, i < k) (h3 : ∀ i, i < k → i ∈ vis) : vis.Perm (List.range k) :=
  (List.perm_ext_iff_of_nodup h1 List.nodup_range).2 fun i => by simp; exact ⟨h2 i, h3 i⟩
theorem range_get {α : Type} (l : List α) : ∀ k, k ≤ l.length → (List.range k).filterMap (fun i => l[i]?) = l.take k
  | 0, _ => by simp
  | k + 1, h => by
    have hk : k < l.length := by omega
    rw [List.range_succ, List.filterMap_append, range_get l k (by omega), List.take_add_one]
    simp [hk]
theorem range_map {α β : Type} (f : α → β) (l : List α) : (List.range l.length).filterMap (fun i => (l[i]?).map f) = l.map f := by
  have := range_get (l.map f) l.length (by simp)
  rw [List.take_of_length_le (by simp)] at this
  rw [← this]
  congr 1
  funext i
  simp
theorem vis_map {α β : Type} (f : α → β) {l : List α} {vis : List Nat} (h1 : vis.Nodup) (h2 : ∀ i ∈ vis, i < l.length) (h3 : ∀ i, i < l.length → i ∈ vis) : (vis.filterMap fun i => (l[i]?).map f).Perm (l.map f) := by
  rw [← range_map f l]
  exact (vis_perm h1 h2 h3).filterMap _
theorem vis_len {vis : List Nat} {k : Nat} (h1 : vis.Nodup) (h2 : ∀ i ∈ vis, i < k) : vis.length ≤ k := by
  have := List.Nodup.length_le_of_subset (l₂ := List.range k) h1 (fun i hi => by simpa using h2 i hi)
  simpa using this
theorem vis_more {vis : List Nat} {k i : Nat} (h1 : vis.Nodup) (h2 : ∀ i ∈ vis, i < k) (hi : i < k) (hn : i ∉ vis) : (vis ++ [i]).Nodup ∧ (∀ j ∈ vis ++ [i], j < k) ∧ vis.length < k := by
  have hnd : (vis ++ [i]).Nodup := List.nodup_append.2 ⟨h1, by simp, fun x hx y hy => by simp at hy; subst hy; exact fun e => hn (e ▸ hx)⟩
  have hlt : ∀ j ∈ vis ++ [i], j < k := fun j hj => by
    rcases List.mem_append.1 hj with hj | hj
    · exact h2 j hj
    · simp at hj; omega
  have := vis_len hnd hlt
  simp at this
  exact ⟨hnd, hlt, by omega⟩
end Go.SX
namespace Go.SX
open Go
theorem St.ent {w : World} {L L' : List HP} (h : Ent L L') (H : St w L) : St w L' := by simpa using h w [] (by simpa using H)
theorem St.rot2 {w : World} {A B C D : HP} {F : List HP} (H : St w (A :: B :: C :: D :: F)) : St w ([C, D] ++ (A :: B :: F)) := St.perm (by simpa using (List.perm_append_comm (l₁ := [A, B]) (l₂ := [C, D])).append_right F) H
theorem CallsS.mk' {P : Program} {g : FuncId} {args : List Value} {L : List HP} {R : Value → List HP → Prop} (h : ∀ F w, St w (L ++ F) → Calls P g args.toArray w fun e w' => ∃ v L', e = .returned v ∧ St w' (L' ++ F) ∧ R v L') : CallsS P g args L R := h
theorem CallsS.run {P : Program} {g : FuncId} {args : List Value} {L : List HP} {R : Value → List HP → Prop} (h : CallsS P g args L R) {F : List HP} {w : World} (t : St w (L ++ F)) : Calls P g args.toArray w fun e w' => ∃ v L', e = .returned v ∧ St w' (L' ++ F) ∧ R v L' := h F w t
theorem beq_ne {i j : Nat} (h : ¬ i = j) : Nat.beq i j = false := by cases hb : Nat.beq i j with | false => rfl | true => exact absurd (Nat.eq_of_beq_eq_true hb) h
def WF (r : Option Nat) : Fence := { Fence.wide with round := r }
theorem callsWF {r : Option Nat} {m : Nat} {P : Program} {f : FuncId} {args : Array Value} {w : World} {R : Ending → World → Prop} (h : Calls P f args w R) : CallsIn (WF r) m P f args w R := callsIn_wide.2 h
theorem rowsWF {r : Option Nat} {m : Nat} {P : Program} {row : String} {args : Array Value} {w : World} {R : Value → World → Prop} (h : Rows P row args w R) : RowsIn (WF r) m P row args w R := fun c cs _ =>
  let ⟨v, w', hr, hs⟩ := h c cs; ⟨v, w', hr, stepsIn_wide.2 hs⟩
section
variable {P : Program} {n : Nat} {r : Option Nat} {ops rest : List Oper} {Q : Post} {f : Env} {L : List HP}
def opsI (P : Program) (n : Nat) (r : Option Nat) (ops rest : List Oper) (Q : Post) (f : Env) (L : List HP) : Prop :=
  okOps n rest = true → ∀ F a w, Sim n a f → St w (L ++ F) → wpListIn (WF r) 0 P ops.toArray (lift n F Q) rest a w
theorem opsI_nil (h : Q .normal f L) : opsI P n r ops [] Q f L := fun _ F a w s t => wpListIn_nil ⟨f, L, s, t, h⟩
theorem opsI_ent {L' : List HP} (h : Ent L L') (H : opsI P n r ops rest Q f L') : opsI P n r ops rest Q f L := fun ok F a w s t => H ok F a w s (h w F t)
theorem opsI_one {o : Oper} (hd : ∀ c, o.op ≠ .defer c) (hg : o.guard = none) (h : opsS P n ops [o] (thenS (fun f L => opsI P n r ops rest Q f L) (fun _ _ _ => False)) f L) : opsI P n r ops (o :: rest) Q f L := by
  intro ok F a w s t
  simp only [okOps, List.all_cons, Bool.and_eq_true] at ok
  have h2 := h (by simp [okOps, ok.1]) F a w s t
  simp only [wpList, Region.wanted, hg, if_true] at h2
  refine wpListIn_plain hg fun K hK => ⟨fun _ _ => trivial, ?_⟩
  rw [Oper.semAt_eq _ _ _ hd]
  rcases h2 with h2 | ⟨_, a', w', f', L', _, _, q⟩
  · unfold Oper.wp at h2
    have key : ∀ a w, lift n F (thenS (fun f L => opsI P n r ops rest Q f L) (fun _ _ _ => False)) .normal a w → K a w := by
      rintro a w ⟨f, L, s, t, q⟩
      exact hK _ _ (q ok.2 F a w s t)
    generalize (execOp a.eval o).run P w = res at *
    cases res with
    | ok m w' =>
      cases m <;> simp only [Oper.upon, Oper.uponIn] at h2 ⊢ <;> first
        | exact key _ _ h2
        | exact h2.elim
        | exact h2
        | (refine ⟨fun h => by simp [WF, Fence.wide] at h, (callsWF (Calls.mono h2 fun e w'' he => ?_))⟩
           cases e with
           | returned u => exact key _ _ he
           | panicked c => obtain ⟨_, _, _, _, q⟩ := he; exact q.elim
           | outgrown => obtain ⟨_, _, _, _, _, _, q⟩ := he; exact q.elim)
        | exact ⟨fun h => by simp [WF, Fence.wide] at h, rowsWF (Rows.mono h2 fun _ _ he => key _ _ he)⟩
    | halt x w' => cases x <;> simp only [Oper.upon, Oper.uponIn] at h2 ⊢ <;> first | exact h2.elim | (obtain ⟨_, _, _, _, q⟩ := h2; exact q.elim)
  · exact q.elim
theorem swp_regionI {id : Nat} {l : List Oper} (h : opsI P n none l l Q f L) : swp P n (.region id l.toArray false) Q f L := fun ok F a w s t =>
  (wpIn_wide (n := 0)).1 (wpIn_region_lit (h (by simpa [okCode] using ok) F a w s t))
def RoundS (P : Program) (l : Nat) (x : Value) (L L' : List HP) : Prop := ∀ F w, St w (L ++ F) → YieldAt Fence.wide 0 P l #[x] w fun e w' => e = .returned (.bool true) ∧ St w' (L' ++ F)
theorem RoundS.frame {l : Nat} {x : Value} {L L' R : List HP} (h : RoundS P l x L L') : RoundS P l x (L ++ R) (L' ++ R) := fun F w t => by
  rw [List.append_assoc] at t ⊢
  exact h (R ++ F) w t
theorem opsI_yield {d : Tmp} {ty : TypeId} {pos : String} {af : Array Edge} {y x : Operand} {ats : Array TypeId} {l : Nat} {v : Value} {L' : List HP} (hy : ev f y = some (.func (.yield l) #[] #[])) (hx : ev f x = some v) (hr : RoundS P l v L L')
    (hk : opsI P n none ops rest Q (upd f d (.bool true)) L') : opsI P n none ops (⟨some d, .call ⟨.value y, #[x], ats⟩, ty, pos, af, none⟩ :: rest) Q f L := by
  intro ok F a w s t
  simp only [okOps, List.all_cons, Bool.and_eq_true] at ok
  obtain ⟨fn, tmps, assign, body, hrun, hround⟩ := hr F w t
  refine wpListIn_plain rfl fun K hK => ⟨fun _ _ => trivial, ?_⟩
  have e : (Oper.semAt (WF none).round a.eval (⟨some d, .call ⟨.value y, #[x], ats⟩, ty, pos, af, none⟩ : Oper)).run P w = .ok (.round l fn tmps assign body) w := by
    rw [Oper.semAt_eq _ _ _ (fun c h => by cases h)]
    simp [execOp, resolve, Deferred.ofValue, invoke, s.eval hy, s.eval hx, hrun]
  rw [e]
  refine ⟨fun h => by simp [WF, Fence.wide] at h, RoundIn.mono hround ?_⟩
  rintro e w' ⟨rfl, t'⟩
  exact hK _ _ (hk ok.2 F _ _ (s.put (d := some d) ok.1 _) t')
end
theorem wpIn_of_swp {P : Program} {n m : Nat} {f : Env} {L F : List HP} {x y : Code} {K : Env → List HP → Prop} {Q : Exit → Act → World → Prop} {a : Act} {w : World} (h : swp P n x (thenS K (fun _ _ _ => False)) f L) (ok : okCode n x = true) (s : Sim n a f) (t : St w (L ++ F))
    (hk : ∀ f L a w, K f L → Sim n a f → St w (L ++ F) → y.wpIn Fence.wide m P Q a w) : (Code.seq x y).wpIn Fence.wide m P Q a w := by
  refine wpIn_seq (wpIn_mono (wpIn_wide.2 (h ok F a w s t)) ?_)
  rintro e a w ⟨f, L, s, t, q⟩
  cases e <;> first | exact hk _ _ _ _ q s t | exact q.elim
theorem wpIn_round {P : Program} {n : Nat} {r : Option Nat} {f : Env} {L F : List HP} {id : Nat} {l : List Oper} {K : Env → List HP → Prop} {Q : Exit → Act → World → Prop} {a : Act} {w : World} (h : opsI P n r l l (thenS K (fun _ _ _ => False)) f L) (ok : okOps n l = true) (s : Sim n a f) (t : St w (L ++ F))
    (hk : ∀ f L a w, K f L → Sim n a f → St w (L ++ F) → Q .normal a w) : (Code.region id l.toArray false).wpIn (WF r) 0 P Q a w := by
  refine wpIn_mono (wpIn_region_lit (h ok F a w s t)) ?_
  rintro e a w ⟨f, L, s, t, q⟩
  cases e <;> first | exact hk _ _ _ _ q s t | exact q.elim
theorem wpIn_rangeF {P : Program} {g : Operand} {ps : Array Tmp} {assign body : Code} {Q : Exit → Act → World → Prop} {a : Act} {w : World} {gf : FuncId} {lb : List Value} [hen : Enters P gf] (hg : a.eval g = .func (.func gf) #[] lb.toArray)
    (h : ∀ fn, Calls P gf (.func (.yield (w.heap.size + 1)) #[] #[] :: lb).toArray ((w.alloc (.deferred (some []))).alloc (.loop { state := .ready, pending := none, fn, tmps := a.tmps, params := ps, assign, body, defers := w.heap.size }))
      fun e w3 => ∃ v w4, e = .returned v ∧ (Instr.endLoop (w.heap.size + 1)).run P w3 = .ok none w4 ∧ Q .normal { a with defers := [{ target := .collected w.heap.size, args := #[] }] ++ a.defers } w4) :
    (Code.rangeFunc g ps assign body).wpIn Fence.wide 1 P Q a w := by
  refine wpIn_rangeFunc fun fn _ => ?_
  have h0 := h fn
  have he := run_enterLoop_outer (P := P) (w := w) fn a.tmps ps assign body
  generalize ((w.alloc (.deferred (some []))).alloc (.loop { state := .ready, pending := none, fn, tmps := a.tmps, params := ps, assign, body, defers := w.heap.size })) = W1 at *
  refine ⟨w.heap.size + 1, [{ target := .collected w.heap.size, args := #[] }], W1, { target := .fn (.func gf) lb.toArray, args := #[.func (.yield (w.heap.size + 1)) #[] #[]] }, W1, gf, (.func (.yield (w.heap.size + 1)) #[] #[] :: lb).toArray, W1, ?_, ?_, ?_, ?_, ?_, ?_⟩
  · exact he
  · simp only [resolve, hg, rangeCall, Deferred.ofValue, Sem.run_bind, Sem.run_pure, Result.andThen_ok, List.map_toArray, List.map_cons, List.map_nil, Array.empty_append]; simp [Act.eval]
  · exact fun _ _ => trivial
  · have : (#[Value.func (.yield (w.heap.size + 1)) #[] #[]] ++ lb.toArray) = (.func (.yield (w.heap.size + 1)) #[] #[] :: lb).toArray := by simp
    simp only [invoke, this, hen.run]
  · intro h; simp [Fence.wide] at h
  · refine callsIn_wide.2 (h0.mono ?_)
    rintro e w3 ⟨v, w4, rfl, h1, h2⟩
    exact ⟨none, w4, h1, h2⟩
def SeqS {κ : Type} (P : Program) (g : FuncId) (lb : List Value) (enc : κ → Value) (N : Nat) (S : List κ → Prop) (A A' : List HP) : Prop :=
  ∀ (l : Nat) (J : List κ → HP), (∀ pre x, pre.length < N → RoundS P l (enc x) [J pre] [J (pre ++ [x])]) → CallsS P g (.func (.yield l) #[] #[] :: lb) (J [] :: A) (fun _ L' => ∃ ks, S ks ∧ L' = J ks :: A')
theorem SeqS.mono {κ : Type} {P : Program} {g : FuncId} {lb : List Value} {enc : κ → Value} {N N' : Nat} {Sp : List κ → Prop} {A A' : List HP} (h : SeqS P g lb enc N Sp A A') (hN : N ≤ N') : SeqS P g lb enc N' Sp A A' := fun l J hJ => h l J fun pre x hp => hJ pre x (by omega)
end Go.SX
