/- The operations that write or make memory; calls. No condition. -/
import Derived.Test.YtjidejcehmamkaaDoorSxD
import Derived.Deep.AppendSrc
set_option linter.unusedVariables false
set_option linter.unusedSimpArgs false
namespace Go.SX
open Go
section
variable {P : Program} {n : Nat} {ops rest : List Oper} {Q : Post} {f : Env} {L : List HP}
variable {d : Tmp} {ty : TypeId} {pos : String} {af : Array Edge}

theorem St.new {w : World} {o : Obj} {L : List HP} (H : St w L) : St { w with heap := w.heap.push o } (pt w.heap.size o :: L) := St.pt_new H rfl

theorem S.al {t sz bts : Nat} {ag : Bool} {zs : List Value} [h : Ty P t ag sz zs bts] (hk : ∀ b, opsS P n ops rest Q (upd f d (.pointer (some ⟨b, 0, none⟩))) (pt b (cl zs t) :: L)) :
    opsS P n ops (⟨some d, .alloc t, ty, pos, af, none⟩ :: rest) Q f L := by
  obtain ⟨z, hz, hz2⟩ := h.zero
  refine opsS_value (R := fun v L' => ∃ b, v = .pointer (some ⟨b, 0, none⟩) ∧ L' = pt b (cl zs t) :: L) (fun F a w s t0 => ?_) (by rintro _ _ ⟨b, rfl, rfl⟩; exact hk b)
  refine ⟨_, _, pt w.heap.size (cl zs t) :: L, ?_, St.new t0, _, rfl, rfl⟩
  have : z.cells = zs.toArray := by rw [← hz2]
  simp [execOp, Instr.alloc, hz, newVar, newRow, this, cl]
theorem S.bx {t : TypeId} {x : Operand} {v : Value} {cs : List Value} (hx : ev f x = some v) (hv : v.cells.toList = cs) (hk : ∀ b, opsS P n ops rest Q (upd f d (.pointer (some ⟨b, 0, none⟩))) (pt b (cl cs t) :: L)) :
    opsS P n ops (⟨some d, .box t x, ty, pos, af, none⟩ :: rest) Q f L := by
  refine opsS_value (R := fun v L' => ∃ b, v = .pointer (some ⟨b, 0, none⟩) ∧ L' = pt b (cl cs t) :: L) (fun F a w s t0 => ?_) (by rintro _ _ ⟨b, rfl, rfl⟩; exact hk b)
  refine ⟨_, _, pt w.heap.size (cl cs t) :: L, ?_, St.new t0, _, rfl, rfl⟩
  have : v.cells = cs.toArray := by rw [← hv]
  simp [execOp, s.eval hx, Instr.box, newVar, newRow, this, cl]

theorem setRow_heap_of {w : World} {b : Nat} {t : TypeId} {l l' : List Value} (hw : w.heap[b]? = some (cl l t)) {L F : List HP} {L' : Obj → List HP} [h : UpdB b L (cl l t) L'] (H : St w (L ++ F)) : St (w.setRow b l'.toArray) (L' (cl l' t) ++ F) := by
  obtain ⟨R, h1, h2⟩ := h.at_
  have H1 : St w (pt b (cl l t) :: (R ++ F)) := by simpa using St.perm (h1.append_right F) H
  have H2 := St.pt_write (w' := w.setRow b l'.toArray) (o' := cl l' t) H1 (by
    have := setRow_heap w b l.toArray l'.toArray t (0, 0) hw
    exact this) (fun k hk => by simp [World.setRow, Array.getElem?_modify, Ne.symm hk])
  exact St.perm ((h2 (cl l' t)).append_right F) (by simpa using H2)
theorem UpdB.read {w : World} {b : Nat} {o : Obj} {L F : List HP} {L' : Obj → List HP} (h : UpdB b L o L') (H : St w (L ++ F)) : w.heap[b]? = some o := by
  obtain ⟨R, h1, _⟩ := h.at_
  exact St.pt_read (L := R ++ F) (by simpa using St.perm (h1.append_right F) H)
def putAt (l : List Value) (o : Nat) (cs : List Value) : List Value := l.take o ++ cs ++ l.drop (o + cs.length)
theorem S.st {x y : Operand} {t t0 sz bts : Nat} {ag : Bool} {zs : List Value} {b o : Nat} {v : Value} {l l' cs : List Value} {L' : Obj → List HP} [h : Ty P t ag sz zs bts] [hb : UpdB b L (cl l t0) L']
    (hx : ev f x = some (.pointer (some ⟨b, o, none⟩))) (hy : ev f y = some v) (hv : v.cells.toList = cs) (hn : cs.length = sz) (h1 : cs.all (·.oneCell') = true) (hlb : Nat.ble (o + sz) l.length = true) (hl' : putAt l o cs = l')
    (hk : opsS P n ops rest Q f (L' (cl l' t0))) : opsS P n ops (⟨none, .store t x y, ty, pos, af, none⟩ :: rest) Q f L := by
  have hl : o + sz ≤ l.length := Nat.le_of_ble_eq_true hlb
  refine opsS_skip1 (L' := L' (cl l' t0)) (fun F a w s t1 => ?_) hk
  have hw := hb.read t1
  refine ⟨w.setRow b l'.toArray, ?_, setRow_heap_of hw t1⟩
  have hst := run_storeCells_at P b o t0 cs 0 l.toArray w hw (by simpa [hn] using hl) (fun v hv => by simpa using List.all_eq_true.1 h1 v hv)
  have hvs : v.cells = cs.toArray := by rw [← hv]
  simp only [Nat.add_zero] at hst
  unfold putAt at hl'
  rw [hl'] at hst
  simp [execOp, s.eval hx, s.eval hy, Instr.storeAt, Instr.sureAddr, storeVar, hvs, h.size, hn, hst]
theorem putAt_one {l : List Value} {o : Nat} {v : Value} (h : o < l.length) : putAt l o [v] = l.set o v := by
  unfold putAt
  rw [List.set_eq_take_append_cons_drop, if_pos h]; simp
theorem S.st1 {x y : Operand} {t t0 bts : Nat} {ag : Bool} {zs : List Value} {b o : Nat} {v : Value} {l l' : List Value} {L' : Obj → List HP} [h : Ty P t ag 1 zs bts] [hb : UpdB b L (cl l t0) L']
    (hx : ev f x = some (.pointer (some ⟨b, o, none⟩))) (hy : ev f y = some v) (h1 : v.oneCell' = true) (hl : Nat.ble (o + 1) l.length = true) (hl' : l.set o v = l')
    (hk : opsS P n ops rest Q f (L' (cl l' t0))) : opsS P n ops (⟨none, .store t x y, ty, pos, af, none⟩ :: rest) Q f L :=
  S.st (sz := 1) (cs := [v]) hx hy (by cases v <;> simp_all [Value.cells, Value.oneCell']) rfl (by simpa using h1) hl (by rw [putAt_one (Nat.le_of_ble_eq_true hl)]; exact hl') hk

/-! Structs and slices made whole. -/
def fillL (places : List (Nat × Nat × Bool)) (cells : List Value) : List (Nat × List Value) → List Value
  | [] => cells
  | (i, cs) :: r => fillL places (putAt cells ((places[i]?).map (·.1) |>.getD 0) cs) r
theorem foldl_set (v : List Value) (off : Nat) : ∀ (k : Nat) (cs : Array Value), off + k + v.length ≤ cs.size →
    (v.zipIdx k).foldl (fun cs (c, j) => cs.setIfInBounds (off + j) c) cs = (putAt cs.toList (off + k) v).toArray := by
  induction v with
  | nil => intro k cs h; simp [putAt]
  | cons c v ih =>
    intro k cs h
    simp only [List.zipIdx_cons, List.foldl_cons]
    simp only [List.length_cons] at h
    rw [ih (k + 1) _ (by simp; omega)]
    congr 1
    have := Go.list_seg_step cs.toList (off + k) c v (by simp; omega)
    simp only [putAt, Array.toList_setIfInBounds, List.length_cons]
    simpa [Nat.add_assoc] using this
theorem fill_eq {places : List (Nat × Nat × Bool)} {pl : Nat → Option (Nat × Nat)} (hpl : ∀ i off sz ag, places[i]? = some (off, sz, ag) → pl i = some (off, sz)) :
    ∀ (parts : List (Nat × Value)) (cells : List Value), (∀ p ∈ parts, ∃ off sz ag, places[p.1]? = some (off, sz, ag) ∧ p.2.cells.size = sz ∧ off + sz ≤ cells.length) →
      Instr.fill pl cells.toArray parts = some (fillL places cells (parts.map fun p => (p.1, p.2.cells.toList))).toArray
  | [], cells, _ => rfl
  | (i, v) :: r, cells, h => by
    obtain ⟨off, sz, ag, h1, h2, h3⟩ := h (i, v) (by simp)
    simp only at h1 h2
    have e1 := hpl i off sz ag h1
    have e2 : (decide (v.cells.size ≠ sz) || decide (off + v.cells.size > cells.toArray.size)) = false := by simp [h2]; omega
    have hpa : (putAt cells off v.cells.toList).length = cells.length := by simp [putAt, h2]; omega
    have hz : v.cells.zipIdx.foldl (fun cs (c, j) => cs.setIfInBounds (off + j) c) cells.toArray = (putAt cells off v.cells.toList).toArray := by
      have := foldl_set v.cells.toList off 0 cells.toArray (by simp [h2]; omega)
      rw [← Array.foldl_toList]
      simpa using this
    have ih := fill_eq hpl r (putAt cells off v.cells.toList) (fun p hp => by
      obtain ⟨a, b, c, d, e, g⟩ := h p (by simp [hp]); exact ⟨a, b, c, d, e, by rw [hpa]; exact g⟩)
    simp only [Instr.fill, e1, e2, if_false, Bool.false_eq_true, hz, ih, List.map_cons, fillL, h1, Option.map_some, Option.getD_some]
def partsL (f : Env) : List (Nat × Operand) → Option (List (Nat × Value))
  | [] => some []
  | (i, x) :: r => match ev f x, partsL f r with
    | some v, some l => some ((i, v) :: l)
    | _, _ => none
theorem partsL_eq {a : Act} (s : Sim n a f) : ∀ {parts : List (Nat × Operand)} {l : List (Nat × Value)}, partsL f parts = some l → parts.map (fun p => (p.1, a.eval p.2)) = l
  | [], l, h => by simp [partsL] at h; simp [h]
  | (i, x) :: r, l, h => by
    simp only [partsL] at h
    cases hx : ev f x with
    | none => rw [hx] at h; simp at h
    | some v =>
      rw [hx] at h
      cases hr : partsL f r with
      | none => rw [hr] at h; simp at h
      | some l' =>
        rw [hr] at h
        simp only [Option.some.injEq] at h
        simp [s.eval hx, partsL_eq s hr, ← h]
def fitsL (places : List (Nat × Nat × Bool)) (m : Nat) (parts : List (Nat × List Value)) : Bool :=
  parts.all fun p => match places[p.1]? with
    | some (off, sz, _) => Nat.beq p.2.length sz && Nat.ble (off + sz) m
    | none => false
def cellsOf (l : List (Nat × Value)) : List (Nat × List Value) := l.map fun p => (p.1, p.2.cells.toList)
theorem fitsL_of {places : List (Nat × Nat × Bool)} {m : Nat} {l : List (Nat × Value)} (h : fitsL places m (cellsOf l) = true) : ∀ p ∈ l, ∃ off sz ag, places[p.1]? = some (off, sz, ag) ∧ p.2.cells.size = sz ∧ off + sz ≤ m := by
  intro p hp
  have := List.all_eq_true.1 h (p.1, p.2.cells.toList) (List.mem_map.2 ⟨p, hp, rfl⟩)
  simp only at this
  cases hq : places[p.1]? with
  | none => rw [hq] at this; simp at this
  | some q =>
    obtain ⟨off, sz, ag⟩ := q
    rw [hq] at this
    simp only [Bool.and_eq_true] at this
    exact ⟨off, sz, ag, rfl, by simpa using Nat.eq_of_beq_eq_true this.1, Nat.le_of_ble_eq_true this.2⟩
theorem run_places {fields : Array Field} {fs : List (Nat × Nat × Bool)} (hs : fields.size = fs.length)
    (h : ∀ (i off sz : Nat) (ag : Bool), fs[i]? = some (off, sz, ag) → ∃ f : Field, fields[i]? = some f ∧ f.offset = off ∧ (∀ w, (sizeOf f.type).run P w = .ok sz w) ∧ (∀ w, (isAgg f.type).run P w = .ok ag w)) (w : World) :
    (fields.mapM (m := Sem) fun f => do pure (f.offset, ← sizeOf f.type)).run P w = .ok (fs.map fun x => (x.1, x.2.1)).toArray w := by
  obtain ⟨fl⟩ := fields
  simp only [List.size_toArray] at hs
  have key : ∀ (fl : List Field) (fs : List (Nat × Nat × Bool)), fl.length = fs.length → (∀ (i off sz : Nat) (ag : Bool), fs[i]? = some (off, sz, ag) → ∃ f : Field, fl[i]? = some f ∧ f.offset = off ∧ (∀ w, (sizeOf f.type).run P w = .ok sz w)) →
      (fl.mapM (m := Sem) fun f => do pure (f.offset, ← sizeOf f.type)).run P w = .ok (fs.map fun x => (x.1, x.2.1)) w := by
    intro fl
    induction fl with
    | nil => intro fs h1 _; cases fs <;> simp_all
    | cons x fl ih =>
      intro fs h1 h2
      cases fs with
      | nil => simp at h1
      | cons q fs =>
        obtain ⟨off, sz, ag⟩ := q
        obtain ⟨f0, e1, e2, e3⟩ := h2 0 off sz ag rfl
        simp only [List.getElem?_cons_zero, Option.some.injEq] at e1
        subst e1
        have := ih fs (by simpa using h1) (fun i off sz ag e => h2 (i + 1) off sz ag (by simpa using e))
        rw [List.mapM_cons]
        simp only [Sem.run_bind, e3, Result.andThen_ok, Sem.run_pure, this, e2, List.map_cons]
  have := key fl fs hs (fun i off sz ag e => by obtain ⟨f0, a, b, c, _⟩ := h i off sz ag e; exact ⟨f0, by simpa using a, b, c⟩)
  rw [List.mapM_toArray]
  simp only [Sem.run_map, this, Result.andThen_ok]
theorem S.bd {t : TypeId} {parts : Array (Nat × Operand)} {fs : List (Nat × Nat × Bool)} {sz bts : Nat} {ag : Bool} {zs cs : List Value} {l : List (Nat × Value)} [h1 : StTy P t fs] [h2 : Ty P t ag sz zs bts]
    (hp : partsL f parts.toList = some l) (hf : fitsL fs zs.length (cellsOf l) = true) (hc : fillL fs zs (cellsOf l) = cs)
    (hk : opsS P n ops rest Q (upd f d (.agg cs.toArray)) L) : opsS P n ops (⟨some d, .build t parts, ty, pos, af, none⟩ :: rest) Q f L := by
  obtain ⟨z, hz, hz2⟩ := h2.zero
  obtain ⟨fields, hu, hsz, hfs⟩ := h1.und
  refine opsS_pure1 (v := .agg cs.toArray) (fun a w s => ?_) hk
  have e1 : (parts.map fun p => (p.1, a.eval p.2)).toList = l := by simpa using partsL_eq s hp
  have e2 := run_places (P := P) hsz hfs w
  have e3 : z.cells = zs.toArray := by rw [← hz2]
  have e4 := fill_eq (places := fs) (pl := fun i => ((fs.map fun x => (x.1, x.2.1)).toArray)[i]?) (fun i off sz ag e => by simp [e]) l zs (fitsL_of hf)
  unfold cellsOf at hc
  rw [hc] at e4
  obtain ⟨pl⟩ := parts
  simp only [List.map_toArray] at e1
  simp only [execOp, Instr.build, Sem.run_bind, hz, Result.andThen_ok, hu, e2, e3, List.map_toArray, e1, e4]
  rfl
def rowL (sz : Nat) (k : Nat) : List (Nat × Nat × Bool) := (List.range k).map fun i => (i * sz, sz, false)
def rep : Nat → List Value → List Value
  | 0, _ => []
  | k + 1, z => z ++ rep k z
theorem rep_length (z : List Value) : ∀ k, (rep k z).length = k * z.length
  | 0 => by simp [rep]
  | k + 1 => by simp [rep, rep_length z k, Nat.succ_mul, Nat.add_comm]
theorem rep_get (z : List Value) : ∀ (k i : Nat), i < k * z.length → (rep k z)[i]? = some (z[i % z.length]!)
  | 0, i, h => by simp at h
  | k + 1, i, h => by
    have hz : 0 < z.length := by cases hz : z.length with | zero => rw [hz] at h; simp at h | succ m => omega
    simp only [rep]
    by_cases hi : i < z.length
    · rw [List.getElem?_append_left hi, Nat.mod_eq_of_lt hi]; simp [hi]
    · rw [List.getElem?_append_right (by omega), rep_get z k (i - z.length) (by rw [Nat.succ_mul] at h; omega)]
      have : i % z.length = (i - z.length) % z.length := by rw [← Nat.mod_eq_sub_mod (by omega)]
      rw [this]
theorem zero_row (z : Array Value) (m sz : Nat) (hz : z.size = sz) : (Array.range (m * sz)).map (fun i => z[i % z.size]!) = (rep m z.toList).toArray := by
  apply Array.ext_getElem?
  intro i
  have hl : (rep m z.toList).length = m * sz := by rw [rep_length]; simp [hz]
  by_cases hi : i < m * sz
  · have e1 : (rep m z.toList).toArray[i]? = (rep m z.toList)[i]? := by simp
    rw [e1, rep_get z.toList m i (by simpa [hz] using hi)]
    simp [hi, hz]
    rw [getElem!_def]; cases z[i % sz]? <;> rfl
  · have e1 : (rep m z.toList).toArray[i]? = (rep m z.toList)[i]? := by simp
    rw [Array.getElem?_eq_none (by simp; omega), e1, List.getElem?_eq_none (by omega)]
theorem S.bs {t e : TypeId} {len : Nat} {parts : Array (Nat × Operand)} {sz bts : Nat} {ag : Bool} {zs cs : List Value} {l : List (Nat × Value)} [h1 : SlTy P t e] [h2 : Ty P e ag sz zs bts]
    (hp : partsL f parts.toList = some l) (hz0 : Nat.beq zs.length sz = true) (hsm : Nat.ble (len * sz) 16777216 = true) (hf : fitsL (rowL sz len) (len * sz) (cellsOf l) = true) (hc : fillL (rowL sz len) (rep len zs) (cellsOf l) = cs)
    (hk : ∀ b, opsS P n ops rest Q (upd f d (.slice (some ⟨b, 0, none⟩) len len)) (pt b (cl cs e) :: L)) : opsS P n ops (⟨some d, .buildSlice t len parts, ty, pos, af, none⟩ :: rest) Q f L := by
  obtain ⟨z, hz, hz2⟩ := h2.zero
  refine opsS_value (R := fun v L' => ∃ b, v = .slice (some ⟨b, 0, none⟩) len len ∧ L' = pt b (cl cs e) :: L) (fun F a w s t0 => ?_) (by rintro _ _ ⟨b, rfl, rfl⟩; exact hk b)
  refine ⟨_, _, pt w.heap.size (cl cs e) :: L, ?_, St.new t0, _, rfl, rfl⟩
  have e1 : (parts.map fun p => (p.1, a.eval p.2)).toList = l := by simpa using partsL_eq s hp
  have hzl : zs.length = sz := Nat.eq_of_beq_eq_true hz0
  have hsm' : len * sz ≤ 16777216 := Nat.le_of_ble_eq_true hsm
  have e3 : z.cells = zs.toArray := by rw [← hz2]
  have hsz : z.cells.size = sz := by rw [e3]; simpa using hzl
  have e5 := zero_row z.cells len sz hsz
  rw [hz2] at e5
  have hlen : (rep len zs).length = len * sz := by rw [rep_length, hzl]
  have e4 := fill_eq (places := rowL sz len) (pl := fun i => some (i * sz, sz)) (fun i off sz' ag e => by
    simp only [rowL, List.getElem?_map] at e
    by_cases hi : i < len
    · rw [List.getElem?_range hi] at e
      simp only [Option.map_some, Option.some.injEq, Prod.mk.injEq] at e
      rw [← e.1, ← e.2.1]
    · rw [List.getElem?_eq_none (by simpa using hi)] at e; simp at e) l (rep len zs) (by rw [hlen]; exact fitsL_of hf)
  unfold cellsOf at hc
  rw [hc] at e4
  obtain ⟨pl⟩ := parts
  simp only [List.map_toArray] at e1
  have hng : ¬ (len * sz > 2 ^ 24) := by omega
  simp only [execOp, Instr.buildSlice, Sem.run_bind, h1.und, Result.andThen_ok, h2.size, hng, if_false, List.map_toArray, e1]
  by_cases h0 : len * sz = 0
  · have e6 : rep len zs = [] := List.eq_nil_of_length_eq_zero (by omega)
    rw [e6] at e4
    have e7 : ∀ g : Nat → Value, (Array.range 0).map g = ([] : List Value).toArray := fun g => by simp
    simp only [h0, if_true, Sem.run_pure, Result.andThen_ok, e7, e4]
    simp [newRow, cl]
  · simp only [h0, if_false, Sem.run_bind, hz, Result.andThen_ok, Sem.run_pure, e5, e4]
    simp [newRow, cl]

theorem S.len {x : Operand} {t e : TypeId} {a : Option Addr} {m c : Nat} [h : SlTy P t e] (hx : ev f x = some (.slice a m c)) (hk : opsS P n ops rest Q (upd f d (.int .i64 m)) L) :
    opsS P n ops (⟨some d, .call ⟨.builtin .len, #[x], #[t]⟩, ty, pos, af, none⟩ :: rest) Q f L :=
  opsS_pure1 (fun a w s => by simp [execOp, resolve, invoke, s.eval hx, builtin, Builtin.len_, h.und, goInt]) hk
/-! Calls. -/
def argsL (f : Env) : List Operand → Option (List Value)
  | [] => some []
  | x :: r => match ev f x, argsL f r with
    | some v, some l => some (v :: l)
    | _, _ => none
theorem argsL_eq {a : Act} (s : Sim n a f) : ∀ {xs : List Operand} {l : List Value}, argsL f xs = some l → xs.map a.eval = l
  | [], l, h => by simp [argsL] at h; simp [h]
  | x :: r, l, h => by
    simp only [argsL] at h
    cases hx : ev f x with
    | none => rw [hx] at h; simp at h
    | some v =>
      rw [hx] at h
      cases hr : argsL f r with
      | none => rw [hr] at h; simp at h
      | some l' =>
        rw [hr] at h
        simp only [Option.some.injEq] at h
        simp [s.eval hx, argsL_eq s hr, ← h]
theorem S.call {dd : Option Tmp} {g : FuncId} {xs : Array Operand} {ats : Array TypeId} {args : List Value} {L1 L2 : List HP} {R : Value → List HP → Prop} [he : Enters P g]
    (hx : argsL f xs.toList = some args) (hc : CallsS P g args L1 R) (hL : Ent L (L1 ++ L2)) (hk : ∀ v L', R v L' → opsS P n ops rest Q (updo f dd v) (L' ++ L2)) :
    opsS P n ops (⟨dd, .call ⟨.value (.func g), xs, ats⟩, ty, pos, af, none⟩ :: rest) Q f L := by
  intro ok F a w s t
  simp only [okOps, List.all_cons, Bool.and_eq_true] at ok
  refine wpList_plain rfl fun K hK => ?_
  have hr : (execOp a.eval ⟨dd, .call ⟨.value (.func g), xs, ats⟩, ty, pos, af, none⟩).run P w = .ok (.enter g args.toArray) w := by
    have : xs.map a.eval = args.toArray := by
      obtain ⟨xl⟩ := xs
      simp [argsL_eq s hx]
    have hev : a.eval (.func g) = .func (.func g) #[] #[] := rfl
    simp [execOp, resolve, Deferred.ofValue, invoke, this, he.run, hev]
  simp only [Oper.wp, hr, Oper.upon]
  have H1 := hL w F t
  rw [List.append_assoc] at H1
  refine (hc (L2 ++ F) w H1).mono ?_
  rintro e w' ⟨v, L', rfl, t', r⟩
  exact hK _ _ (hk v L' r ok.2 F _ _ (s.put ok.1 v) (by rwa [List.append_assoc]))
theorem S.cs {g : FuncId} {xs : Array Operand} {ats : Array TypeId} {args : List Value} {L1 L2 : List HP} {R : Value → List HP → Prop} [he : Enters P g]
    (hx : argsL f xs.toList = some args) (hc : CallsS P g args L1 R) (hL : Ent L (L1 ++ L2)) (hk : ∀ v L', R v L' → opsS P n ops rest Q (upd f d v) (L' ++ L2)) :
    opsS P n ops (⟨some d, .call ⟨.value (.func g), xs, ats⟩, ty, pos, af, none⟩ :: rest) Q f L := S.call hx hc hL hk
theorem S.callR {dd : Option Tmp} {g : FuncId} {xs : Array Operand} {ats : Array TypeId} {args : List Value} {R : Value → List HP → Prop} [he : Enters P g]
    (hx : argsL f xs.toList = some args) (hc : CallsS P g args L R) (hk : ∀ v L', R v L' → opsS P n ops rest Q (updo f dd v) L') :
    opsS P n ops (⟨dd, .call ⟨.value (.func g), xs, ats⟩, ty, pos, af, none⟩ :: rest) Q f L :=
  S.call (L1 := L) (L2 := []) hx hc (by simpa using Ent.refl L) (fun v L' r => by simpa using hk v L' r)
theorem S.cr {g : FuncId} {xs : Array Operand} {ats : Array TypeId} {args : List Value} {R : Value → List HP → Prop} [he : Enters P g]
    (hx : argsL f xs.toList = some args) (hc : CallsS P g args L R) (hk : ∀ v L', R v L' → opsS P n ops rest Q (upd f d v) L') :
    opsS P n ops (⟨some d, .call ⟨.value (.func g), xs, ats⟩, ty, pos, af, none⟩ :: rest) Q f L := S.callR hx hc hk
theorem S.cr0 {g : FuncId} {xs : Array Operand} {ats : Array TypeId} {args : List Value} {R : Value → List HP → Prop} [he : Enters P g]
    (hx : argsL f xs.toList = some args) (hc : CallsS P g args L R) (hk : ∀ v L', R v L' → opsS P n ops rest Q f L') :
    opsS P n ops (⟨none, .call ⟨.value (.func g), xs, ats⟩, ty, pos, af, none⟩ :: rest) Q f L := S.callR hx hc hk
end

/-! A function's contract out of its body. -/
def resOf (a : Act) : ResultVar → Sem Value
  | .tmp t => pure (a.tmps.getD t undef)
  | .cell b t => do loadVar t (← asAddr (a.tmps.getD b undef))
def RV (P : Program) (n : Nat) (rs : List ResultVar) (f : Env) (L : List HP) (l : List Value) : Prop :=
  ∀ F a w, Sim n a f → St w (L ++ F) → (rs.mapM (resOf a)).run P w = .ok l w
theorem RV.nil {P : Program} {n : Nat} {f : Env} {L : List HP} : RV P n [] f L [] := fun F a w s t => by simp
theorem RV.tmp {P : Program} {n : Nat} {rs : List ResultVar} {f : Env} {L : List HP} {l : List Value} {t : Nat} {v : Value} (h : f t = some v) (hr : RV P n rs f L l) : RV P n (.tmp t :: rs) f L (v :: l) := fun F a w s st => by
  have := hr F a w s st
  simp only [List.mapM_cons, resOf, Sem.run_bind, this, Sem.run_pure, Result.andThen_ok, s.at_ t v h]
theorem RV.cellN {P : Program} {n : Nat} {rs : List ResultVar} {f : Env} {L : List HP} {l : List Value} {t ty b o sz bts : Nat} {zs cs : List Value} [hy : Ty P ty true sz zs bts] (h : f t = some (.pointer (some ⟨b, o, none⟩))) (hc : RdC L b o cs) (hn : cs.length = sz) (hr : RV P n rs f L l) : RV P n (.cell t ty :: rs) f L (.agg cs.toArray :: l) := fun F a w s st => by
  have := hr F a w s st
  have h2 := run_loadVarN (h := hy) hn (hc w F st)
  simp only [Instr.loadAt, Instr.sureAddr, Sem.run_bind, Sem.run_pure, Result.andThen_ok] at h2
  simp only [List.mapM_cons, resOf, asAddr, Sem.run_bind, this, Sem.run_pure, Result.andThen_ok, s.at_ t _ h, h2]
theorem RV.cell1 {P : Program} {n : Nat} {rs : List ResultVar} {f : Env} {L : List HP} {l : List Value} {t ty b o sz bts : Nat} {zs : List Value} {v : Value} [hy : Ty P ty false sz zs bts] (h : f t = some (.pointer (some ⟨b, o, none⟩))) (hc : RdC L b o [v]) (hr : RV P n rs f L l) : RV P n (.cell t ty :: rs) f L (v :: l) := fun F a w s st => by
  have := hr F a w s st
  have h2 := run_loadVar1 (h := hy) (hc w F st 0 v rfl)
  simp only [Instr.loadAt, Instr.sureAddr, Sem.run_bind, Sem.run_pure, Result.andThen_ok, Nat.add_zero] at h2
  simp only [List.mapM_cons, resOf, asAddr, Sem.run_bind, this, Sem.run_pure, Result.andThen_ok, s.at_ t _ h, h2]
def packV : List Value → Value
  | [v] => v
  | l => .tuple l.toArray
def retS (P : Program) (n : Nat) (rs : List ResultVar) (R : Value → List HP → Prop) : Post := fun e f L =>
  match e with
  | .normal | .ret => ∃ l, RV P n rs f L l ∧ ∃ L', Ent L L' ∧ R (packV l) L'
  | _ => False
def argEnv : List Value → Nat → Env
  | [], _ => e0
  | v :: r, k => upd (argEnv r (k + 1)) k v
theorem argEnv_at : ∀ (l : List Value) (k i : Nat) (v : Value), argEnv l k i = some v → k ≤ i ∧ l[i - k]? = some v
  | [], k, i, v, h => by simp [argEnv, e0] at h
  | u :: r, k, i, v, h => by
    simp only [argEnv, upd] at h
    cases hb : Nat.beq i k with
    | true =>
      rw [hb] at h
      have : i = k := Nat.eq_of_beq_eq_true hb
      subst this
      simpa using h
    | false =>
      rw [hb] at h
      obtain ⟨h1, h2⟩ := argEnv_at r (k + 1) i v h
      refine ⟨by omega, ?_⟩
      have : i - k = (i - (k + 1)) + 1 := by omega
      rw [this]; simpa using h2
theorem CallsS.of_body {P : Program} {g : FuncId} {fn : Func} {c : Code} {args : List Value} {L : List HP} {R : Value → List HP → Prop} (hf : P.funcs[g]? = some fn) (hb : fn.body = some c)
    (hok : okCode fn.ntmps c = true) (hn : Nat.ble args.length fn.ntmps = true) (h : swp P fn.ntmps c (retS P fn.ntmps fn.results.toList R) (argEnv args 0) L) : CallsS P g args L R := by
  intro F w t
  have hn' : args.length ≤ fn.ntmps := Nat.le_of_ble_eq_true hn
  refine calls_of_wp hf hb (wp_mono (h hok F _ w ?_ t) ?_)
  · refine ⟨rfl, by simp; omega, fun i v e => ?_⟩
    obtain ⟨_, h2⟩ := argEnv_at args 0 i v e
    simp only [Nat.sub_zero] at h2
    have hi : i < args.length := (List.getElem?_eq_some_iff.1 h2).1
    rw [Array.getD_eq_getD_getElem?, Array.getElem?_append_left (by simpa using hi)]
    simp [h2]
  · rintro e a w ⟨f, L', s, t, q⟩
    have fin : (∃ l, RV P fn.ntmps fn.results.toList f L' l ∧ ∃ L'', Ent L' L'' ∧ R (packV l) L'') → a.defers = [] ∧ ∃ v, (results fn a.tmps).run P w = .ok v w ∧ ∃ v' L'', Ending.returned v = .returned v' ∧ St w (L'' ++ F) ∧ R v' L'' := by
      rintro ⟨l, hl, L2, he, r⟩
      refine ⟨s.defers, packV l, ?_, _, _, rfl, he w F t, r⟩
      have e3 : fn.results = fn.results.toList.toArray := by simp
      have h2 := hl F a w s t
      have e4 : results fn a.tmps = (do let vs ← fn.results.mapM (resOf a); pure (if h : vs.size = 1 then vs[0] else .tuple vs)) := by
        unfold results
        congr 1
      rw [e4, e3, List.mapM_toArray]
      simp only [Sem.run_bind, Sem.run_map]
      rw [h2]
      simp only [Result.andThen_ok, Sem.run_pure]
      cases l with
      | nil => rfl
      | cons x l => cases l <;> simp [packV]
    cases e <;> first | exact fin q | exact q.elim
end Go.SX
/- Small steps between codes; ends. No condition. -/
namespace Go.SX
open Go
section
variable {K : Env → List HP → Prop} {Q : Post} {f : Env} {L : List HP} {rs : List ResultVar} {R : Value → List HP → Prop}
theorem N.tn (h : K f L) : thenS K Q .normal f L := h
theorem N.tr (h : Q .ret f L) : thenS K Q .ret f L := h
theorem N.te {i : Nat} (h : Q (.exit i) f L) : thenS K Q (.exit i) f L := h
theorem N.bn {i : Nat} (h : Q .normal f L) : blockS i Q .normal f L := h
theorem N.br {i : Nat} (h : Q .ret f L) : blockS i Q .ret f L := h
theorem N.be {i : Nat} (h : Q .normal f L) : blockS i Q (.exit i) f L := by simp only [blockS]; rw [show Nat.beq i i = true from by simp]; exact h
theorem N.bx {i j : Nat} (e : Nat.beq j i = false) (h : Q (.exit j) f L) : blockS i Q (.exit j) f L := by simp only [blockS]; rw [e]; exact h
theorem N.r0 {P : Program} {n : Nat} (h0 : RV P n rs f L []) {L' : List HP} (he : Ent L L') (h : R (.tuple #[]) L') : retS P n rs R .ret f L := ⟨_, h0, _, he, h⟩
theorem N.r1 {P : Program} {n : Nat} {v : Value} (h0 : RV P n rs f L [v]) {L' : List HP} (he : Ent L L') (h : R v L') : retS P n rs R .ret f L := ⟨_, h0, _, he, h⟩
theorem N.r2 {P : Program} {n : Nat} {v u : Value} (h0 : RV P n rs f L [v, u]) {L' : List HP} (he : Ent L L') (h : R (.tuple #[v, u]) L') : retS P n rs R .ret f L := ⟨_, h0, _, he, h⟩
theorem N.r3 {P : Program} {n : Nat} {v u x : Value} (h0 : RV P n rs f L [v, u, x]) {L' : List HP} (he : Ent L L') (h : R (.tuple #[v, u, x]) L') : retS P n rs R .ret f L := ⟨_, h0, _, he, h⟩
theorem N.n0 {P : Program} {n : Nat} (h0 : RV P n rs f L []) {L' : List HP} (he : Ent L L') (h : R (.tuple #[]) L') : retS P n rs R .normal f L := ⟨_, h0, _, he, h⟩
theorem N.n1 {P : Program} {n : Nat} {v : Value} (h0 : RV P n rs f L [v]) {L' : List HP} (he : Ent L L') (h : R v L') : retS P n rs R .normal f L := ⟨_, h0, _, he, h⟩
end
/-! One list out of another one. -/
class Pick (A : HP) (L : List HP) (L0 : outParam (List HP)) : Prop where
  ent : Ent L (A :: L0)
instance Pick.here {A : HP} {L : List HP} : Pick A (A :: L) L := ⟨Ent.refl _⟩
instance (priority := low) Pick.there {A B : HP} {L L0 : List HP} [h : Pick A L L0] : Pick A (B :: L) (B :: L0) := ⟨(h.ent.cons).trans (Ent.perm (.swap _ _ _))⟩
theorem S.cq {P : Program} {n : Nat} {ops rest : List Oper} {Q : Post} {f : Env} {L : List HP} {d : Tmp} {ty : TypeId} {pos : String} {af : Array Edge} {A : HP} {L0 : List HP} {g : FuncId} {xs : Array Operand} {ats : Array TypeId} {args : List Value} {R : Value → List HP → Prop} [he : Enters P g]
    (hx : argsL f xs.toList = some args) (hc : CallsS P g args (A :: L0) R) [hp : Pick A L L0] (hk : ∀ v L', R v L' → opsS P n ops rest Q (upd f d v) L') :
    opsS P n ops (⟨some d, .call ⟨.value (.func g), xs, ats⟩, ty, pos, af, none⟩ :: rest) Q f L := opsS_ent hp.ent (S.cr hx hc hk)
theorem S.cq0 {P : Program} {n : Nat} {ops rest : List Oper} {Q : Post} {f : Env} {L : List HP} {ty : TypeId} {pos : String} {af : Array Edge} {A : HP} {L0 : List HP} {g : FuncId} {xs : Array Operand} {ats : Array TypeId} {args : List Value} {R : Value → List HP → Prop} [he : Enters P g]
    (hx : argsL f xs.toList = some args) (hc : CallsS P g args (A :: L0) R) [hp : Pick A L L0] (hk : ∀ v L', R v L' → opsS P n ops rest Q f L') :
    opsS P n ops (⟨none, .call ⟨.value (.func g), xs, ats⟩, ty, pos, af, none⟩ :: rest) Q f L := opsS_ent hp.ent (S.cr0 hx hc hk)
theorem Ent.pick {A : HP} {L L0 L' : List HP} [h : Pick A L L0] (H : Ent L0 L') : Ent L (A :: L') := h.ent.trans H.cons
theorem CallsS.weak {P : Program} {g : FuncId} {args : List Value} {L L' : List HP} {R R' : Value → List HP → Prop} (hL : Ent L L') (h : CallsS P g args L' R) (hR : ∀ v M, R v M → ∃ M', Ent M M' ∧ R' v M') : CallsS P g args L R' := by
  intro F w t
  refine (h F w (hL w F t)).mono ?_
  rintro e w' ⟨v, M, rfl, t', r⟩
  obtain ⟨M', h1, h2⟩ := hR v M r
  exact ⟨v, M', rfl, h1 _ _ t', h2⟩
theorem CallsS.ent {P : Program} {g : FuncId} {args : List Value} {L L' : List HP} {R : Value → List HP → Prop} (hL : Ent L L') (h : CallsS P g args L' R) : CallsS P g args L R := fun F w t => h F w (hL w F t)
theorem CallsS.ex {P : Program} {g : FuncId} {args : List Value} {α : Sort _} {X : α → HP} {L : List HP} {R : Value → List HP → Prop} (h : ∀ x, CallsS P g args (X x :: L) R) : CallsS P g args (exH X :: L) R := fun F w t =>
  let ⟨x, t⟩ := St.open_ex t; h x F w t
theorem CallsS.pure {P : Program} {g : FuncId} {args : List Value} {φ : Prop} {L : List HP} {R : Value → List HP → Prop} (h : φ → CallsS P g args L R) : CallsS P g args (pureH φ :: L) R := fun F w t =>
  let ⟨x, t⟩ := St.open_pure t; h x F w t
theorem CallsS.all {P : Program} {g : FuncId} {args : List Value} {L0 L : List HP} {R : Value → List HP → Prop} (h : CallsS P g args (L0 ++ L) R) : CallsS P g args (allH L0 :: L) R := h.ent Ent.open_all
theorem CallsS.mono {P : Program} {g : FuncId} {args : List Value} {L : List HP} {R R' : Value → List HP → Prop} (h : CallsS P g args L R) (hR : ∀ v M, R v M → R' v M) : CallsS P g args L R' := h.weak (Ent.refl _) fun v M r => ⟨M, Ent.refl _, hR v M r⟩
theorem Ent.ex {α : Sort _} {X : α → HP} {L L' : List HP} (h : ∀ x, Ent (X x :: L) L') : Ent (exH X :: L) L' := fun w F t => let ⟨x, t⟩ := St.open_ex (M := L ++ F) t; h x w F t
theorem Ent.pure {φ : Prop} {L L' : List HP} (h : φ → Ent L L') : Ent (pureH φ :: L) L' := fun w F t => let ⟨x, t⟩ := St.open_pure (M := L ++ F) t; h x w F t
theorem opsS_all {P : Program} {n : Nat} {ops rest : List Oper} {Q : Post} {f : Env} {L0 L : List HP} (h : opsS P n ops rest Q f (L0 ++ L)) : opsS P n ops rest Q f (allH L0 :: L) := opsS_ent Ent.open_all h
theorem swp_all {P : Program} {n : Nat} {c : Code} {Q : Post} {f : Env} {L0 L : List HP} (h : swp P n c Q f (L0 ++ L)) : swp P n c Q f (allH L0 :: L) := swp_ent Ent.open_all h
end Go.SX
/- The builtins: append, copy, clear, min, max; slices that are owned. No condition. -/
namespace Go.SX
open Go

def slO (t sz : Nat) (a : Option Addr) (m c : Nat) (cs : List Value) : HP := fun _ h =>
  cs.length = m * sz ∧ ((a = none ∧ m = 0 ∧ c = 0) ∨ ∃ b rest, a = some ⟨b, 0, none⟩ ∧ m ≤ c ∧ (cs ++ rest).length = c * sz ∧ h b = some (true, cl (cs ++ rest) t))
def slR (sz : Nat) (a : Option Addr) (m : Nat) (cs : List Value) : HP := fun _ h =>
  cs.length = m * sz ∧ ((a = none ∧ m = 0) ∨ ∃ b o t fz l, a = some ⟨b, o, none⟩ ∧ h b = some (false, .cells l t fz) ∧ ∀ j v, cs[j]? = some v → l[o + j]? = some v)

class UpdS (a : Option Addr) (L : List HP) (t sz m c : outParam Nat) (cs : outParam (List Value)) (L' : outParam (HP → List HP)) : Prop where
  at_ : ∃ R, L.Perm (slO t sz a m c cs :: R) ∧ ∀ x, (x :: R).Perm (L' x)
instance UpdS.here {a : Option Addr} {t sz m c : Nat} {cs : List Value} {L : List HP} : UpdS a (slO t sz a m c cs :: L) t sz m c cs (fun x => x :: L) := ⟨L, .refl _, fun _ => .refl _⟩
instance (priority := low) UpdS.there {a : Option Addr} {t sz m c : Nat} {cs : List Value} {A : HP} {L : List HP} {L' : HP → List HP} [h : UpdS a L t sz m c cs L'] : UpdS a (A :: L) t sz m c cs (fun x => A :: L' x) := by
  obtain ⟨R, h1, h2⟩ := h.at_
  exact ⟨A :: R, (h1.cons A).trans (.swap _ _ _), fun x => List.Perm.trans (.swap _ _ _) ((h2 x).cons A)⟩

theorem slO_fold {b t sz m : Nat} {cs : List Value} {L : List HP} (h : cs.length = m * sz) : Ent (pt b (cl cs t) :: L) (slO t sz (some ⟨b, 0, none⟩) m m cs :: L) := fun w F H =>
  St.of_sep (L := pt b (cl cs t) :: (L ++ F)) (fun hh ⟨h1, h2, o, e, p, r⟩ => ⟨h1, h2, o, e, ⟨h, .inr ⟨b, [], rfl, Nat.le_refl _, by simpa using h, by have p' : h1 b = some (true, cl cs t) := p; simpa using p'⟩⟩, r⟩) H
theorem slO_nil {t sz : Nat} {L : List HP} : Ent L (slO t sz none 0 0 [] :: L) := fun w F H =>
  St.of_sep (fun hh hl => ⟨(fun _ => none : Nat → Option (Bool × Obj)), hh, fun b p o q o' e => by simp at e, by funext b; simp [Hp.add], ⟨by simp, .inl ⟨rfl, rfl, rfl⟩⟩, hl⟩) H
theorem Ent.nilS {t sz : Nat} {L L' : List HP} (h : Ent L L') : Ent L (slO t sz none 0 0 [] :: L') := h.trans slO_nil
theorem St.slO_open {w : World} {t sz m c : Nat} {a : Option Addr} {cs : List Value} {L : List HP} (H : St w (slO t sz a m c cs :: L)) :
    cs.length = m * sz ∧ ((a = none ∧ m = 0 ∧ c = 0 ∧ cs = [] ∧ St w L) ∨ ∃ b rest, a = some ⟨b, 0, none⟩ ∧ m ≤ c ∧ (cs ++ rest).length = c * sz ∧ St w (pt b (cl (cs ++ rest) t) :: L)) := by
  obtain ⟨h0, f, h1, h2, o, e, ⟨hl, hp⟩, m⟩ := H
  refine ⟨hl, ?_⟩
  rcases hp with ⟨ha, hm, hc⟩ | ⟨b, rest, ha, hm, hc, hb⟩
  · refine .inl ⟨ha, hm, hc, List.eq_nil_of_length_eq_zero (by rw [hl, hm]; simp), h2, ?_, m⟩
    subst e; exact Hp.fits_right o f
  · exact .inr ⟨b, rest, ha, hm, hc, h0, f, h1, h2, o, e, hb, m⟩
theorem St.slO_shut {w : World} {t sz m c b : Nat} {cs rest : List Value} {L : List HP} (hl : cs.length = m * sz) (hm : m ≤ c) (hc : (cs ++ rest).length = c * sz) (H : St w (pt b (cl (cs ++ rest) t) :: L)) : St w (slO t sz (some ⟨b, 0, none⟩) m c cs :: L) :=
  St.of_sep (L := pt b (cl (cs ++ rest) t) :: L) (fun hh ⟨h1, h2, o, e, p, r⟩ => ⟨h1, h2, o, e, ⟨hl, .inr ⟨b, rest, rfl, hm, hc, p⟩⟩, r⟩) H
theorem St.slO_none {w : World} {t sz : Nat} {L : List HP} (H : St w L) : St w (slO t sz none 0 0 [] :: L) := slO_nil (t := t) (sz := sz) (L := L) w [] (by simpa using H) |> fun h => by simpa using h
theorem RdC.slO {L : List HP} {t sz m c b : Nat} {cs : List Value} (h : ∃ R, Ent L (slO t sz (some ⟨b, 0, none⟩) m c cs :: R)) : RdC L b 0 cs := fun w F H j v e => by
  obtain ⟨R, h⟩ := h
  have := St.slO_open (h w F H)
  rcases this.2 with ⟨h1, _⟩ | ⟨b', rest, h1, _, _, h4⟩
  · simp at h1
  · simp only [Option.some.injEq, Addr.mk.injEq, and_true] at h1
    subst h1
    have := St.pt_read h4
    have hj : j < cs.length := (List.getElem?_eq_some_iff.1 e).1
    simp [World.cell?, this, cl, List.getElem?_append_left hj, e]

section
variable {P : Program} {n : Nat} {ops rest : List Oper} {Q : Post} {f : Env} {L : List HP}
variable {d : Tmp} {ty : TypeId} {pos : String} {af : Array Edge}

theorem setCells_ext (b : Nat) : ∀ (vs : List Value) (o : Nat) (w : World), ext (w.setCells b o vs) = ext w
  | [], _, _ => rfl
  | v :: r, o, w => (setCells_ext b r (o + 1) (w.setCell ⟨b, o, none⟩ v)).trans rfl
theorem setCells_eq (b : Nat) (t : TypeId) (w : World) : ∀ (vs l : List Value) (o : Nat), w.heap[b]? = some (cl l t) → o + vs.length ≤ l.length →
    (w.setCells b o vs).heap[b]? = some (cl (putAt l o vs) t) ∧ ∀ k, k ≠ b → (w.setCells b o vs).heap[k]? = w.heap[k]? := by
  intro vs
  induction vs generalizing w with
  | nil => intro l o h hl; simp [World.setCells, putAt, h]
  | cons v r ih =>
    intro l o h hl
    simp only [List.length_cons] at hl
    have h1 : (w.setCell ⟨b, o, none⟩ v).heap[b]? = some (cl (l.set o v) t) := by
      simp [World.setCell, Array.getElem?_modify, h, cl]
    obtain ⟨e1, e2⟩ := ih (w.setCell ⟨b, o, none⟩ v) (l.set o v) (o + 1) h1 (by simp; omega)
    refine ⟨?_, fun k hk => ?_⟩
    · simp only [World.setCells]
      rw [e1]
      have := Go.list_seg_step l o v r (by omega)
      simp only [putAt, List.length_cons]
      rw [← this]
    · simp only [World.setCells]
      rw [e2 k hk]
      simp [World.setCell, Array.getElem?_modify, Ne.symm hk]
structure SrcS (P : Program) (L : List HP) (sz : Nat) (tx : TypeId) (x : Value) (k : Nat) (ys : List Value) : Prop where
  src : ∀ w F, St w (L ++ F) → Src P sz tx x k ys w
theorem SrcS.sl {sz : Nat} {tx e' : TypeId} [h : SlTy P tx e'] {b o k c : Nat} {ys : List Value} (hr : RdC L b o ys) (hl : ys.length = k * sz) (h1 : ys.all (·.oneCell') = true) : SrcS P L sz tx (.slice (some ⟨b, o, none⟩) k c) k ys :=
  ⟨fun w F H => Src.ofSlice w h.raw ⟨b, o, none⟩ k c ys hl (fun j u e => by
    have := hr w F H j u e
    have e2 : (⟨b, o, none⟩ : Addr).add j = ⟨b, o + j, none⟩ := by unfold Addr.add; split <;> simp_all
    rw [e2]; exact this) (fun u hu => by simpa using List.all_eq_true.1 h1 u hu)⟩
theorem SrcS.nil {sz : Nat} {tx e' : TypeId} [h : SlTy P tx e'] {c : Nat} : SrcS P L sz tx (.slice none 0 c) 0 [] := ⟨fun w F H => Src.ofNil w h.raw c⟩

theorem S.app {x y : Operand} {t tx e : TypeId} {sz bts : Nat} {ag : Bool} {zs : List Value} {a : Option Addr} {m c k : Nat} {v : Value} {cs ys : List Value} {L' : HP → List HP} [h : SlTy P t e] [h2 : Ty P e ag sz zs bts] [hu : UpdS a L e sz m c cs L']
    (hx : ev f x = some (.slice a m c)) (hy : ev f y = some v) (hs : SrcS P L sz tx v k ys) (hz : zs.length = sz) (hfit : (m + k) * bts ≤ 140737488355328) (h63 : m + k ≤ 9223372036854775807)
    (hk : ∀ a' c', opsS P n ops rest Q (upd f d (.slice a' (m + k) c')) (L' (slO e sz a' (m + k) c' (cs ++ ys)))) :
    opsS P n ops (⟨some d, .call ⟨.builtin .append, #[x, y], #[t, tx]⟩, ty, pos, af, none⟩ :: rest) Q f L := by
  obtain ⟨i, z, hi, hisz, hib, hiz, hzz⟩ := h2.raw
  refine opsS_value (R := fun v L1 => ∃ a' c', v = .slice a' (m + k) c' ∧ L1 = L' (slO e sz a' (m + k) c' (cs ++ ys))) (fun F ac w s t0 => ?_) (by rintro _ _ ⟨a', c', rfl, rfl⟩; exact hk a' c')
  obtain ⟨R, p1, p2⟩ := hu.at_
  have H1 : St w (slO e sz a m c cs :: (R ++ F)) := by simpa using St.perm (p1.append_right F) t0
  have hsrc := hs.src w F t0
  obtain ⟨hcl, hcase⟩ := St.slO_open H1
  have hev : (execOp ac.eval ⟨some d, .call ⟨.builtin .append, #[x, y], #[t, tx]⟩, ty, pos, af, none⟩).run P w = ((Builtin.append_ #[t, tx] ty #[.slice a m c, v]).run P w).andThen fun u w' => .ok (.value u) w' := by
    simp [execOp, resolve, invoke, s.eval hx, s.eval hy, builtin]
  rw [hev]
  clear hev
  have hyl : ys.length = k * sz := by rw [hsrc.newsLen]
  have grow : ∀ (hg : c < m + k), (Builtin.firstCells i.size m (.slice a m c)).run P w.drew = .ok cs.toArray w.drew → St w (R ++ F) →
      ∃ v' w' L1, (((Builtin.append_ #[t, tx] ty #[.slice a m c, v]).run P w).andThen fun u w' => Result.ok (Next.value u) w') = Result.ok (Next.value v') w' ∧ St w' (L1 ++ F) ∧ ∃ a' c', v' = Value.slice a' (m + k) c' ∧ L1 = L' (slO e sz a' (m + k) c' (cs ++ ys)) := by
    intro hg hold hR
    have hfit' : Builtin.nextslicecap (m + k) c * i.bytes ≤ 281474976710656 := growslice_fits hg (by rw [hib]; exact hfit)
    have hr := run_append_grow_src (P := P) w t tx ty e i z h.raw hi hiz a m c cs hold v k ys (hisz ▸ hsrc) hg (by omega) hfit'
    refine ⟨_, _, L' (slO e sz (some ⟨w.heap.size, 0, none⟩) (m + k) (grownCap w (m + k) c e) (cs ++ ys)), by rw [hr]; rfl, ?_, _, _, rfl, rfl⟩
    have hcap : m + k ≤ grownCap w (m + k) c e := by
      simp only [grownCap, Question.cut]; omega
    have hcl2 : (cs ++ ys).length = (m + k) * sz := by simp [hcl, hyl, Nat.add_mul]
    have hzl : z.cells.size = sz := by rw [← hz, ← hzz]; simp
    have H2 : St (w.drew.alloc (.cells ((cs ++ ys).toArray ++ Builtin.zeroCells z.cells (grownCap w (m + k) c e - (m + k))) e)) (pt w.heap.size (cl ((cs ++ ys) ++ (Builtin.zeroCells z.cells (grownCap w (m + k) c e - (m + k))).toList) e) :: (R ++ F)) := by
      refine St.pt_new hR ?_
      show w.heap.push _ = _
      congr 1
      simp [cl]
    have H3 := St.slO_shut hcl2 hcap (by
      simp only [List.length_append, hcl, hyl, Builtin.zeroCells, Array.length_toList, Array.size_map, Array.size_range, hzl]
      rw [← Nat.add_mul, ← Nat.add_mul]; congr 1; omega) H2
    exact St.perm ((p2 _).append_right F) (by simpa using H3)
  rcases hcase with ⟨rfl, rfl, rfl, rfl, hR⟩ | ⟨b, rest', rfl, hmc, hrl, hpt⟩
  · by_cases hk0 : k = 0
    · subst hk0
      have hys : ys = [] := List.eq_nil_of_length_eq_zero (by simpa using hyl)
      subst hys
      refine ⟨.slice none 0 0, w, L' (slO e sz none 0 0 []), ?_, ?_, none, 0, rfl, rfl⟩
      · have := hsrc.cells
        rcases hsrc.kind with ⟨e', hk'⟩ | hk' <;> simp [Builtin.append_, run_underlying h.raw, run_underlying hk', sizeOf, typeInfo, hi, hsrc.len, hisz, this]
      · exact St.perm ((p2 _).append_right F) (by simpa using St.slO_none (t := e) (sz := sz) hR)
    · exact grow (by omega) (by rw [run_firstCells_none]) hR
  · have hrow := St.pt_read hpt
    by_cases hroom : m + k ≤ c
    · have hlen : m * sz + ys.length ≤ (cs ++ rest').length := by rw [hrl, hyl, ← Nat.add_mul]; exact Nat.mul_le_mul_right _ hroom
      have hr := run_append_room_src (P := P) w t tx ty e i h.raw hi b 0 m c v k ys (hisz ▸ hsrc) hroom (fun j hj => by
        rw [hisz]
        have : m * sz + j < (cs ++ rest').length := by omega
        simp only [World.cell?, hrow, cl]
        simp [Nat.zero_add, List.getElem?_eq_getElem this]) (fun j hj => by simp [World.frozen?, hrow, cl])
      rw [hisz, Nat.zero_add] at hr
      refine ⟨.slice (some ⟨b, 0, none⟩) (m + k) c, _, L' (slO e sz (some ⟨b, 0, none⟩) (m + k) c (cs ++ ys)), by rw [hr]; rfl, ?_, _, _, rfl, rfl⟩
      obtain ⟨e1, e2⟩ := setCells_eq b e w ys (cs ++ rest') (m * sz) hrow hlen
      have hput : putAt (cs ++ rest') (m * sz) ys = (cs ++ ys) ++ rest'.drop ys.length := by
        simp only [putAt, ← hcl, List.take_left, List.drop_append, List.append_assoc]
        congr 2
        rw [List.drop_eq_nil_of_le (by omega)]; simp
      have H2 := St.pt_write (w' := w.setCells b (m * sz) ys) (o' := cl ((cs ++ ys) ++ rest'.drop ys.length) e) hpt (by rw [e1, hput]) e2 (setCells_ext ..)
      have H3 := St.slO_shut (m := m + k) (c := c) (sz := sz) (by simp [hcl, hyl, Nat.add_mul]) hroom (by
        simp only [List.length_append, List.length_drop] at hrl hlen ⊢; omega) H2
      exact St.perm ((p2 _).append_right F) (by simpa using H3)
    · refine grow (by omega) ?_ hpt.tail
      refine run_firstCells_some w.drew i.size m _ m c cs (by rw [hisz]; exact hcl) (fun j u hj => ?_)
      have e2 : (⟨b, 0, none⟩ : Addr).add j = ⟨b, j, none⟩ := by unfold Addr.add; split <;> simp_all
      have hj' : j < cs.length := (List.getElem?_eq_some_iff.1 hj).1
      have hrow' : w.drew.heap[b]? = some (cl (cs ++ rest') e) := hrow
      rw [e2]; simp [World.cell?, hrow', cl, List.getElem?_append_left hj', hj]
theorem S.app0 {x y : Operand} {t tx e : TypeId} {sz bts : Nat} {ag : Bool} {zs : List Value} {a : Option Addr} {c k : Nat} {v : Value} {cs ys : List Value} {L' : HP → List HP} [h : SlTy P t e] [h2 : Ty P e ag sz zs bts] [hu : UpdS a L e sz 0 c cs L']
    (hx : ev f x = some (.slice a 0 c)) (hy : ev f y = some v) (hcs : cs = []) (hs : SrcS P L sz tx v k ys) (hz : zs.length = sz) (hfit : k * bts ≤ 140737488355328) (h63 : k ≤ 9223372036854775807)
    (hk : ∀ a' c', opsS P n ops rest Q (upd f d (.slice a' k c')) (L' (slO e sz a' k c' ys))) :
    opsS P n ops (⟨some d, .call ⟨.builtin .append, #[x, y], #[t, tx]⟩, ty, pos, af, none⟩ :: rest) Q f L := by
  subst hcs
  refine S.app hx hy hs hz (by simpa using hfit) (by simpa using h63) (fun a' c' => ?_)
  simpa using hk a' c'
end
theorem CallsS.slO {P : Program} {g : FuncId} {args : List Value} {L : List HP} {R : Value → List HP → Prop} {t sz m c : Nat} {a : Option Addr} {cs : List Value} (hm : 0 < m)
    (h : ∀ b rest, a = some ⟨b, 0, none⟩ → m ≤ c → (cs ++ rest).length = c * sz → CallsS P g args (pt b (cl (cs ++ rest) t) :: L) R) : CallsS P g args (slO t sz a m c cs :: L) R := fun F w H => by
  rcases (St.slO_open H).2 with ⟨_, h0, _⟩ | ⟨b, rest, e, h1, h2, h3⟩
  · omega
  · exact h b rest e h1 h2 F w h3
theorem slO_shut {b t sz m c : Nat} {cs rest : List Value} {L : List HP} (hl : cs.length = m * sz) (hm : m ≤ c) (hc : (cs ++ rest).length = c * sz) : Ent (pt b (cl (cs ++ rest) t) :: L) (slO t sz (some ⟨b, 0, none⟩) m c cs :: L) := fun w F H => St.slO_shut hl hm hc H
end Go.SX
