/- The operations that write or make memory; calls. No condition. -/
import Derived.Test.YtieejgbjgcbbjaaSxD
set_option linter.unusedVariables false
set_option linter.unusedSimpArgs false
namespace Go.SX
open Go
section
variable {P : Program} {n : Nat} {ops rest : List Oper} {Q : Post} {f : Env} {L : List HP}
variable {d : Tmp} {ty : TypeId} {pos : String} {af : Array Edge}

theorem St.new {w : World} {o : Obj} {L : List HP} (H : St w L) : St { w with heap := w.heap.push o } (pt w.heap.size o :: L) := St.pt_new H rfl

/-- A new variable. -/
theorem S.al {t sz bts : Nat} {ag : Bool} {zs : List Value} [h : Ty P t ag sz zs bts] (hk : ∀ b, opsS P n ops rest Q (upd f d (.pointer (some ⟨b, 0, none⟩))) (pt b (cl zs t) :: L)) :
    opsS P n ops (⟨some d, .alloc t, ty, pos, af, none⟩ :: rest) Q f L := by
  obtain ⟨z, hz, hz2⟩ := h.zero
  refine opsS_value (R := fun v L' => ∃ b, v = .pointer (some ⟨b, 0, none⟩) ∧ L' = pt b (cl zs t) :: L) (fun F a w s t0 => ?_) (by rintro _ _ ⟨b, rfl, rfl⟩; exact hk b)
  refine ⟨_, _, pt w.heap.size (cl zs t) :: L, ?_, St.new t0, _, rfl, rfl⟩
  have : z.cells = zs.toArray := by rw [← hz2]
  simp [execOp, Instr.alloc, hz, newVar, newRow, this, cl]
theorem S.bx {t : TypeId} {x : Operand} {v : Value} {cs : List Value} (hx : ev f x = some v) (hv : v.cells.toList = cs) (hk : ∀ b, opsS P n ops rest Q (upd f d (.pointer (some ⟨b, 0, none⟩))) (pt b (cl cs t) :: L)) :
    opsS P n ops (⟨some d, .box t x, ty, pos, af, none⟩ :: rest) Q f L := by
  refine opsS_value (R := fun v L' => ∃ b, v = .pointer (some ⟨b, 0, none⟩) ∧ L' = pt b (cl cs t) :: L) (fun F a w s t0 => ?_) (by rintro _ _ ⟨b, rfl, rfl⟩; exact hk b)
  refine ⟨_, _, pt w.heap.size (cl cs t) :: L, ?_, St.new t0, _, rfl, rfl⟩
  have : v.cells = cs.toArray := by rw [← hv]
  simp [execOp, s.eval hx, Instr.box, newVar, newRow, this, cl]

/-- A store. -/
theorem setRow_heap_of {w : World} {b : Nat} {t : TypeId} {l l' : List Value} (hw : w.heap[b]? = some (cl l t)) {L F : List HP} {L' : Obj → List HP} [h : UpdB b L (cl l t) L'] (H : St w (L ++ F)) : St (w.setRow b l'.toArray) (L' (cl l' t) ++ F) := by
  obtain ⟨R, h1, h2⟩ := h.at_
  have H1 : St w (pt b (cl l t) :: (R ++ F)) := by simpa using St.perm (h1.append_right F) H
  have H2 := St.pt_write (w' := w.setRow b l'.toArray) (o' := cl l' t) H1 (by
    have := setRow_heap w b l.toArray l'.toArray t (0, 0) hw
    exact this) (fun k hk => by simp [World.setRow, Array.getElem?_modify, Ne.symm hk])
  exact St.perm ((h2 (cl l' t)).append_right F) (by simpa using H2)
theorem UpdB.read {w : World} {b : Nat} {o : Obj} {L F : List HP} {L' : Obj → List HP} (h : UpdB b L o L') (H : St w (L ++ F)) : w.heap[b]? = some o := by
  obtain ⟨R, h1, _⟩ := h.at_
  exact St.pt_read (L := R ++ F) (by simpa using St.perm (h1.append_right F) H)
def putAt (l : List Value) (o : Nat) (cs : List Value) : List Value := l.take o ++ cs ++ l.drop (o + cs.length)
theorem S.st {x y : Operand} {t t0 sz bts : Nat} {ag : Bool} {zs : List Value} {b o : Nat} {v : Value} {l l' cs : List Value} {L' : Obj → List HP} [h : Ty P t ag sz zs bts] [hb : UpdB b L (cl l t0) L']
    (hx : ev f x = some (.pointer (some ⟨b, o, none⟩))) (hy : ev f y = some v) (hv : v.cells.toList = cs) (hn : cs.length = sz) (h1 : cs.all (·.oneCell') = true) (hlb : Nat.ble (o + sz) l.length = true) (hl' : putAt l o cs = l')
    (hk : opsS P n ops rest Q f (L' (cl l' t0))) : opsS P n ops (⟨none, .store t x y, ty, pos, af, none⟩ :: rest) Q f L := by
  have hl : o + sz ≤ l.length := Nat.le_of_ble_eq_true hlb
  refine opsS_skip1 (L' := L' (cl l' t0)) (fun F a w s t1 => ?_) hk
  have hw := hb.read t1
  refine ⟨w.setRow b l'.toArray, ?_, setRow_heap_of hw t1⟩
  have hst := run_storeCells_at P b o t0 cs 0 l.toArray w hw (by simpa [hn] using hl) (fun v hv => by simpa using List.all_eq_true.1 h1 v hv)
  have hvs : v.cells = cs.toArray := by rw [← hv]
  simp only [Nat.add_zero] at hst
  unfold putAt at hl'
  rw [hl'] at hst
  simp [execOp, s.eval hx, s.eval hy, Instr.storeAt, Instr.sureAddr, storeVar, hvs, h.size, hn, hst]
/-- A store of one cell. -/
theorem putAt_one {l : List Value} {o : Nat} {v : Value} (h : o < l.length) : putAt l o [v] = l.set o v := by
  unfold putAt
  rw [List.set_eq_take_append_cons_drop, if_pos h]; simp
theorem S.st1 {x y : Operand} {t t0 bts : Nat} {ag : Bool} {zs : List Value} {b o : Nat} {v : Value} {l l' : List Value} {L' : Obj → List HP} [h : Ty P t ag 1 zs bts] [hb : UpdB b L (cl l t0) L']
    (hx : ev f x = some (.pointer (some ⟨b, o, none⟩))) (hy : ev f y = some v) (h1 : v.oneCell' = true) (hl : Nat.ble (o + 1) l.length = true) (hl' : l.set o v = l')
    (hk : opsS P n ops rest Q f (L' (cl l' t0))) : opsS P n ops (⟨none, .store t x y, ty, pos, af, none⟩ :: rest) Q f L :=
  S.st (sz := 1) (cs := [v]) hx hy (by cases v <;> simp_all [Value.cells, Value.oneCell']) rfl (by simpa using h1) hl (by rw [putAt_one (Nat.le_of_ble_eq_true hl)]; exact hl') hk

/-! Structs and slices made whole. -/
def fillL (places : List (Nat × Nat × Bool)) (cells : List Value) : List (Nat × List Value) → List Value
  | [] => cells
  | (i, cs) :: r => fillL places (putAt cells ((places[i]?).map (·.1) |>.getD 0) cs) r
theorem foldl_set (v : List Value) (off : Nat) : ∀ (k : Nat) (cs : Array Value), off + k + v.length ≤ cs.size →
    (v.zipIdx k).foldl (fun cs (c, j) => cs.setIfInBounds (off + j) c) cs = (putAt cs.toList (off + k) v).toArray := by
  induction v with
  | nil => intro k cs h; simp [putAt]
  | cons c v ih =>
    intro k cs h
    simp only [List.zipIdx_cons, List.foldl_cons]
    simp only [List.length_cons] at h
    rw [ih (k + 1) _ (by simp; omega)]
    congr 1
    have := Go.list_seg_step cs.toList (off + k) c v (by simp; omega)
    simp only [putAt, Array.toList_setIfInBounds, List.length_cons]
    simpa [Nat.add_assoc] using this
theorem fill_eq {places : List (Nat × Nat × Bool)} {pl : Nat → Option (Nat × Nat)} (hpl : ∀ i off sz ag, places[i]? = some (off, sz, ag) → pl i = some (off, sz)) :
    ∀ (parts : List (Nat × Value)) (cells : List Value), (∀ p ∈ parts, ∃ off sz ag, places[p.1]? = some (off, sz, ag) ∧ p.2.cells.size = sz ∧ off + sz ≤ cells.length) →
      Instr.fill pl cells.toArray parts = some (fillL places cells (parts.map fun p => (p.1, p.2.cells.toList))).toArray
  | [], cells, _ => rfl
  | (i, v) :: r, cells, h => by
    obtain ⟨off, sz, ag, h1, h2, h3⟩ := h (i, v) (by simp)
    simp only at h1 h2
    have e1 := hpl i off sz ag h1
    have e2 : (decide (v.cells.size ≠ sz) || decide (off + v.cells.size > cells.toArray.size)) = false := by simp [h2]; omega
    have hpa : (putAt cells off v.cells.toList).length = cells.length := by simp [putAt, h2]; omega
    have hz : v.cells.zipIdx.foldl (fun cs (c, j) => cs.setIfInBounds (off + j) c) cells.toArray = (putAt cells off v.cells.toList).toArray := by
      have := foldl_set v.cells.toList off 0 cells.toArray (by simp [h2]; omega)
      rw [← Array.foldl_toList]
      simpa using this
    have ih := fill_eq hpl r (putAt cells off v.cells.toList) (fun p hp => by
      obtain ⟨a, b, c, d, e, g⟩ := h p (by simp [hp]); exact ⟨a, b, c, d, e, by rw [hpa]; exact g⟩)
    simp only [Instr.fill, e1, e2, if_false, Bool.false_eq_true, hz, ih, List.map_cons, fillL, h1, Option.map_some, Option.getD_some]
/-- What goes into each place: cells of the parts. -/
def partsL (f : Env) : List (Nat × Operand) → Option (List (Nat × Value))
  | [] => some []
  | (i, x) :: r => match ev f x, partsL f r with
    | some v, some l => some ((i, v) :: l)
    | _, _ => none
theorem partsL_eq {a : Act} (s : Sim n a f) : ∀ {parts : List (Nat × Operand)} {l : List (Nat × Value)}, partsL f parts = some l → parts.map (fun p => (p.1, a.eval p.2)) = l
  | [], l, h => by simp [partsL] at h; simp [h]
  | (i, x) :: r, l, h => by
    simp only [partsL] at h
    cases hx : ev f x with
    | none => rw [hx] at h; simp at h
    | some v =>
      rw [hx] at h
      cases hr : partsL f r with
      | none => rw [hr] at h; simp at h
      | some l' =>
        rw [hr] at h
        simp only [Option.some.injEq] at h
        simp [s.eval hx, partsL_eq s hr, ← h]
def fitsL (places : List (Nat × Nat × Bool)) (m : Nat) (parts : List (Nat × List Value)) : Bool :=
  parts.all fun p => match places[p.1]? with
    | some (off, sz, _) => Nat.beq p.2.length sz && Nat.ble (off + sz) m
    | none => false
def cellsOf (l : List (Nat × Value)) : List (Nat × List Value) := l.map fun p => (p.1, p.2.cells.toList)
theorem fitsL_of {places : List (Nat × Nat × Bool)} {m : Nat} {l : List (Nat × Value)} (h : fitsL places m (cellsOf l) = true) : ∀ p ∈ l, ∃ off sz ag, places[p.1]? = some (off, sz, ag) ∧ p.2.cells.size = sz ∧ off + sz ≤ m := by
  intro p hp
  have := List.all_eq_true.1 h (p.1, p.2.cells.toList) (List.mem_map.2 ⟨p, hp, rfl⟩)
  simp only at this
  cases hq : places[p.1]? with
  | none => rw [hq] at this; simp at this
  | some q =>
    obtain ⟨off, sz, ag⟩ := q
    rw [hq] at this
    simp only [Bool.and_eq_true] at this
    exact ⟨off, sz, ag, rfl, by simpa using Nat.eq_of_beq_eq_true this.1, Nat.le_of_ble_eq_true this.2⟩
theorem run_places {fields : Array Field} {fs : List (Nat × Nat × Bool)} (hs : fields.size = fs.length)
    (h : ∀ (i off sz : Nat) (ag : Bool), fs[i]? = some (off, sz, ag) → ∃ f : Field, fields[i]? = some f ∧ f.offset = off ∧ (∀ w, (sizeOf f.type).run P w = .ok sz w) ∧ (∀ w, (isAgg f.type).run P w = .ok ag w)) (w : World) :
    (fields.mapM (m := Sem) fun f => do pure (f.offset, ← sizeOf f.type)).run P w = .ok (fs.map fun x => (x.1, x.2.1)).toArray w := by
  obtain ⟨fl⟩ := fields
  simp only [List.size_toArray] at hs
  have key : ∀ (fl : List Field) (fs : List (Nat × Nat × Bool)), fl.length = fs.length → (∀ (i off sz : Nat) (ag : Bool), fs[i]? = some (off, sz, ag) → ∃ f : Field, fl[i]? = some f ∧ f.offset = off ∧ (∀ w, (sizeOf f.type).run P w = .ok sz w)) →
      (fl.mapM (m := Sem) fun f => do pure (f.offset, ← sizeOf f.type)).run P w = .ok (fs.map fun x => (x.1, x.2.1)) w := by
    intro fl
    induction fl with
    | nil => intro fs h1 _; cases fs <;> simp_all
    | cons x fl ih =>
      intro fs h1 h2
      cases fs with
      | nil => simp at h1
      | cons q fs =>
        obtain ⟨off, sz, ag⟩ := q
        obtain ⟨f0, e1, e2, e3⟩ := h2 0 off sz ag rfl
        simp only [List.getElem?_cons_zero, Option.some.injEq] at e1
        subst e1
        have := ih fs (by simpa using h1) (fun i off sz ag e => h2 (i + 1) off sz ag (by simpa using e))
        rw [List.mapM_cons]
        simp only [Sem.run_bind, e3, Result.andThen_ok, Sem.run_pure, this, e2, List.map_cons]
  have := key fl fs hs (fun i off sz ag e => by obtain ⟨f0, a, b, c, _⟩ := h i off sz ag e; exact ⟨f0, by simpa using a, b, c⟩)
  rw [List.mapM_toArray]
  simp only [Sem.run_map, this, Result.andThen_ok]
theorem S.bd {t : TypeId} {parts : Array (Nat × Operand)} {fs : List (Nat × Nat × Bool)} {sz bts : Nat} {ag : Bool} {zs cs : List Value} {l : List (Nat × Value)} [h1 : StTy P t fs] [h2 : Ty P t ag sz zs bts]
    (hp : partsL f parts.toList = some l) (hf : fitsL fs zs.length (cellsOf l) = true) (hc : fillL fs zs (cellsOf l) = cs)
    (hk : opsS P n ops rest Q (upd f d (.agg cs.toArray)) L) : opsS P n ops (⟨some d, .build t parts, ty, pos, af, none⟩ :: rest) Q f L := by
  obtain ⟨z, hz, hz2⟩ := h2.zero
  obtain ⟨fields, hu, hsz, hfs⟩ := h1.und
  refine opsS_pure1 (v := .agg cs.toArray) (fun a w s => ?_) hk
  have e1 : (parts.map fun p => (p.1, a.eval p.2)).toList = l := by simpa using partsL_eq s hp
  have e2 := run_places (P := P) hsz hfs w
  have e3 : z.cells = zs.toArray := by rw [← hz2]
  have e4 := fill_eq (places := fs) (pl := fun i => ((fs.map fun x => (x.1, x.2.1)).toArray)[i]?) (fun i off sz ag e => by simp [e]) l zs (fitsL_of hf)
  unfold cellsOf at hc
  rw [hc] at e4
  obtain ⟨pl⟩ := parts
  simp only [List.map_toArray] at e1
  simp only [execOp, Instr.build, Sem.run_bind, hz, Result.andThen_ok, hu, e2, e3, List.map_toArray, e1, e4]
  rfl
def rowL (sz : Nat) (k : Nat) : List (Nat × Nat × Bool) := (List.range k).map fun i => (i * sz, sz, false)
def rep : Nat → List Value → List Value
  | 0, _ => []
  | k + 1, z => z ++ rep k z
theorem rep_length (z : List Value) : ∀ k, (rep k z).length = k * z.length
  | 0 => by simp [rep]
  | k + 1 => by simp [rep, rep_length z k, Nat.succ_mul, Nat.add_comm]
theorem rep_get (z : List Value) : ∀ (k i : Nat), i < k * z.length → (rep k z)[i]? = some (z[i % z.length]!)
  | 0, i, h => by simp at h
  | k + 1, i, h => by
    have hz : 0 < z.length := by cases hz : z.length with | zero => rw [hz] at h; simp at h | succ m => omega
    simp only [rep]
    by_cases hi : i < z.length
    · rw [List.getElem?_append_left hi, Nat.mod_eq_of_lt hi]; simp [hi]
    · rw [List.getElem?_append_right (by omega), rep_get z k (i - z.length) (by rw [Nat.succ_mul] at h; omega)]
      have : i % z.length = (i - z.length) % z.length := by rw [← Nat.mod_eq_sub_mod (by omega)]
      rw [this]
theorem zero_row (z : Array Value) (m sz : Nat) (hz : z.size = sz) : (Array.range (m * sz)).map (fun i => z[i % z.size]!) = (rep m z.toList).toArray := by
  apply Array.ext_getElem?
  intro i
  have hl : (rep m z.toList).length = m * sz := by rw [rep_length]; simp [hz]
  by_cases hi : i < m * sz
  · have e1 : (rep m z.toList).toArray[i]? = (rep m z.toList)[i]? := by simp
    rw [e1, rep_get z.toList m i (by simpa [hz] using hi)]
    simp [hi, hz]
    rw [getElem!_def]; cases z[i % sz]? <;> rfl
  · have e1 : (rep m z.toList).toArray[i]? = (rep m z.toList)[i]? := by simp
    rw [Array.getElem?_eq_none (by simp; omega), e1, List.getElem?_eq_none (by omega)]
theorem S.bs {t e : TypeId} {len : Nat} {parts : Array (Nat × Operand)} {sz bts : Nat} {ag : Bool} {zs cs : List Value} {l : List (Nat × Value)} [h1 : SlTy P t e] [h2 : Ty P e ag sz zs bts]
    (hp : partsL f parts.toList = some l) (hz0 : Nat.beq zs.length sz = true) (hsm : Nat.ble (len * sz) 16777216 = true) (hf : fitsL (rowL sz len) (len * sz) (cellsOf l) = true) (hc : fillL (rowL sz len) (rep len zs) (cellsOf l) = cs)
    (hk : ∀ b, opsS P n ops rest Q (upd f d (.slice (some ⟨b, 0, none⟩) len len)) (pt b (cl cs e) :: L)) : opsS P n ops (⟨some d, .buildSlice t len parts, ty, pos, af, none⟩ :: rest) Q f L := by
  obtain ⟨z, hz, hz2⟩ := h2.zero
  refine opsS_value (R := fun v L' => ∃ b, v = .slice (some ⟨b, 0, none⟩) len len ∧ L' = pt b (cl cs e) :: L) (fun F a w s t0 => ?_) (by rintro _ _ ⟨b, rfl, rfl⟩; exact hk b)
  refine ⟨_, _, pt w.heap.size (cl cs e) :: L, ?_, St.new t0, _, rfl, rfl⟩
  have e1 : (parts.map fun p => (p.1, a.eval p.2)).toList = l := by simpa using partsL_eq s hp
  have hzl : zs.length = sz := Nat.eq_of_beq_eq_true hz0
  have hsm' : len * sz ≤ 16777216 := Nat.le_of_ble_eq_true hsm
  have e3 : z.cells = zs.toArray := by rw [← hz2]
  have hsz : z.cells.size = sz := by rw [e3]; simpa using hzl
  have e5 := zero_row z.cells len sz hsz
  rw [hz2] at e5
  have hlen : (rep len zs).length = len * sz := by rw [rep_length, hzl]
  have e4 := fill_eq (places := rowL sz len) (pl := fun i => some (i * sz, sz)) (fun i off sz' ag e => by
    simp only [rowL, List.getElem?_map] at e
    by_cases hi : i < len
    · rw [List.getElem?_range hi] at e
      simp only [Option.map_some, Option.some.injEq, Prod.mk.injEq] at e
      rw [← e.1, ← e.2.1]
    · rw [List.getElem?_eq_none (by simpa using hi)] at e; simp at e) l (rep len zs) (by rw [hlen]; exact fitsL_of hf)
  unfold cellsOf at hc
  rw [hc] at e4
  obtain ⟨pl⟩ := parts
  simp only [List.map_toArray] at e1
  have hng : ¬ (len * sz > 2 ^ 24) := by omega
  simp only [execOp, Instr.buildSlice, Sem.run_bind, h1.und, Result.andThen_ok, h2.size, hng, if_false, List.map_toArray, e1]
  by_cases h0 : len * sz = 0
  · have e6 : rep len zs = [] := List.eq_nil_of_length_eq_zero (by omega)
    rw [e6] at e4
    have e7 : ∀ g : Nat → Value, (Array.range 0).map g = ([] : List Value).toArray := fun g => by simp
    simp only [h0, if_true, Sem.run_pure, Result.andThen_ok, e7, e4]
    simp [newRow, cl]
  · simp only [h0, if_false, Sem.run_bind, hz, Result.andThen_ok, Sem.run_pure, e5, e4]
    simp [newRow, cl]

theorem S.len {x : Operand} {t e : TypeId} {a : Option Addr} {m c : Nat} [h : SlTy P t e] (hx : ev f x = some (.slice a m c)) (hk : opsS P n ops rest Q (upd f d (.int .i64 m)) L) :
    opsS P n ops (⟨some d, .call ⟨.builtin .len, #[x], #[t]⟩, ty, pos, af, none⟩ :: rest) Q f L :=
  opsS_pure1 (fun a w s => by simp [execOp, resolve, invoke, s.eval hx, builtin, Builtin.len_, h.und, goInt]) hk
/-! Calls. -/
def argsL (f : Env) : List Operand → Option (List Value)
  | [] => some []
  | x :: r => match ev f x, argsL f r with
    | some v, some l => some (v :: l)
    | _, _ => none
theorem argsL_eq {a : Act} (s : Sim n a f) : ∀ {xs : List Operand} {l : List Value}, argsL f xs = some l → xs.map a.eval = l
  | [], l, h => by simp [argsL] at h; simp [h]
  | x :: r, l, h => by
    simp only [argsL] at h
    cases hx : ev f x with
    | none => rw [hx] at h; simp at h
    | some v =>
      rw [hx] at h
      cases hr : argsL f r with
      | none => rw [hr] at h; simp at h
      | some l' =>
        rw [hr] at h
        simp only [Option.some.injEq] at h
        simp [s.eval hx, argsL_eq s hr, ← h]
/-- A call of a function by its contract: L is parted into what the contract wants and what stays. -/
theorem S.call {dd : Option Tmp} {g : FuncId} {xs : Array Operand} {ats : Array TypeId} {args : List Value} {L1 L2 : List HP} {R : Value → List HP → Prop} [he : Enters P g]
    (hx : argsL f xs.toList = some args) (hc : CallsS P g args L1 R) (hL : Ent L (L1 ++ L2)) (hk : ∀ v L', R v L' → opsS P n ops rest Q (updo f dd v) (L' ++ L2)) :
    opsS P n ops (⟨dd, .call ⟨.value (.func g), xs, ats⟩, ty, pos, af, none⟩ :: rest) Q f L := by
  intro ok F a w s t
  simp only [okOps, List.all_cons, Bool.and_eq_true] at ok
  refine wpList_plain rfl fun K hK => ?_
  have hr : (execOp a.eval ⟨dd, .call ⟨.value (.func g), xs, ats⟩, ty, pos, af, none⟩).run P w = .ok (.enter g args.toArray) w := by
    have : xs.map a.eval = args.toArray := by
      obtain ⟨xl⟩ := xs
      simp [argsL_eq s hx]
    have hev : a.eval (.func g) = .func (.func g) #[] #[] := rfl
    simp [execOp, resolve, Deferred.ofValue, invoke, this, he.run, hev]
  simp only [Oper.wp, hr, Oper.upon]
  have H1 := hL w F t
  rw [List.append_assoc] at H1
  refine (hc (L2 ++ F) w H1).mono ?_
  rintro e w' ⟨v, L', rfl, t', r⟩
  exact hK _ _ (hk v L' r ok.2 F _ _ (s.put ok.1 v) (by rwa [List.append_assoc]))
/-- The same, its result in a slot. -/
theorem S.cs {g : FuncId} {xs : Array Operand} {ats : Array TypeId} {args : List Value} {L1 L2 : List HP} {R : Value → List HP → Prop} [he : Enters P g]
    (hx : argsL f xs.toList = some args) (hc : CallsS P g args L1 R) (hL : Ent L (L1 ++ L2)) (hk : ∀ v L', R v L' → opsS P n ops rest Q (upd f d v) (L' ++ L2)) :
    opsS P n ops (⟨some d, .call ⟨.value (.func g), xs, ats⟩, ty, pos, af, none⟩ :: rest) Q f L := S.call hx hc hL hk
/-- A contract over what there is, which stays (a function that reads). -/
theorem S.callR {dd : Option Tmp} {g : FuncId} {xs : Array Operand} {ats : Array TypeId} {args : List Value} {R : Value → List HP → Prop} [he : Enters P g]
    (hx : argsL f xs.toList = some args) (hc : CallsS P g args L R) (hk : ∀ v L', R v L' → opsS P n ops rest Q (updo f dd v) L') :
    opsS P n ops (⟨dd, .call ⟨.value (.func g), xs, ats⟩, ty, pos, af, none⟩ :: rest) Q f L :=
  S.call (L1 := L) (L2 := []) hx hc (by simpa using Ent.refl L) (fun v L' r => by simpa using hk v L' r)
theorem S.cr {g : FuncId} {xs : Array Operand} {ats : Array TypeId} {args : List Value} {R : Value → List HP → Prop} [he : Enters P g]
    (hx : argsL f xs.toList = some args) (hc : CallsS P g args L R) (hk : ∀ v L', R v L' → opsS P n ops rest Q (upd f d v) L') :
    opsS P n ops (⟨some d, .call ⟨.value (.func g), xs, ats⟩, ty, pos, af, none⟩ :: rest) Q f L := S.callR hx hc hk
theorem S.cr0 {g : FuncId} {xs : Array Operand} {ats : Array TypeId} {args : List Value} {R : Value → List HP → Prop} [he : Enters P g]
    (hx : argsL f xs.toList = some args) (hc : CallsS P g args L R) (hk : ∀ v L', R v L' → opsS P n ops rest Q f L') :
    opsS P n ops (⟨none, .call ⟨.value (.func g), xs, ats⟩, ty, pos, af, none⟩ :: rest) Q f L := S.callR hx hc hk
end

/-! A function's contract out of its body. -/
def resOf (a : Act) : ResultVar → Sem Value
  | .tmp t => pure (a.tmps.getD t undef)
  | .cell b t => do loadVar t (← asAddr (a.tmps.getD b undef))
/-- What the results are. -/
def RV (P : Program) (n : Nat) (rs : List ResultVar) (f : Env) (L : List HP) (l : List Value) : Prop :=
  ∀ F a w, Sim n a f → St w (L ++ F) → (rs.mapM (resOf a)).run P w = .ok l w
theorem RV.nil {P : Program} {n : Nat} {f : Env} {L : List HP} : RV P n [] f L [] := fun F a w s t => by simp
theorem RV.tmp {P : Program} {n : Nat} {rs : List ResultVar} {f : Env} {L : List HP} {l : List Value} {t : Nat} {v : Value} (h : f t = some v) (hr : RV P n rs f L l) : RV P n (.tmp t :: rs) f L (v :: l) := fun F a w s st => by
  have := hr F a w s st
  simp only [List.mapM_cons, resOf, Sem.run_bind, this, Sem.run_pure, Result.andThen_ok, s.at_ t v h]
theorem RV.cellN {P : Program} {n : Nat} {rs : List ResultVar} {f : Env} {L : List HP} {l : List Value} {t ty b o sz bts : Nat} {zs cs : List Value} [hy : Ty P ty true sz zs bts] (h : f t = some (.pointer (some ⟨b, o, none⟩))) (hc : RdC L b o cs) (hn : cs.length = sz) (hr : RV P n rs f L l) : RV P n (.cell t ty :: rs) f L (.agg cs.toArray :: l) := fun F a w s st => by
  have := hr F a w s st
  have h2 := run_loadVarN (h := hy) hn (hc w F st)
  simp only [Instr.loadAt, Instr.sureAddr, Sem.run_bind, Sem.run_pure, Result.andThen_ok] at h2
  simp only [List.mapM_cons, resOf, asAddr, Sem.run_bind, this, Sem.run_pure, Result.andThen_ok, s.at_ t _ h, h2]
theorem RV.cell1 {P : Program} {n : Nat} {rs : List ResultVar} {f : Env} {L : List HP} {l : List Value} {t ty b o sz bts : Nat} {zs : List Value} {v : Value} [hy : Ty P ty false sz zs bts] (h : f t = some (.pointer (some ⟨b, o, none⟩))) (hc : RdC L b o [v]) (hr : RV P n rs f L l) : RV P n (.cell t ty :: rs) f L (v :: l) := fun F a w s st => by
  have := hr F a w s st
  have h2 := run_loadVar1 (h := hy) (hc w F st 0 v rfl)
  simp only [Instr.loadAt, Instr.sureAddr, Sem.run_bind, Sem.run_pure, Result.andThen_ok, Nat.add_zero] at h2
  simp only [List.mapM_cons, resOf, asAddr, Sem.run_bind, this, Sem.run_pure, Result.andThen_ok, s.at_ t _ h, h2]
def packV : List Value → Value
  | [v] => v
  | l => .tuple l.toArray
def retS (P : Program) (n : Nat) (rs : List ResultVar) (R : Value → List HP → Prop) : Post := fun e f L =>
  match e with
  | .normal | .ret => ∃ l, RV P n rs f L l ∧ ∃ L', Ent L L' ∧ R (packV l) L'
  | _ => False
def argEnv : List Value → Nat → Env
  | [], _ => e0
  | v :: r, k => upd (argEnv r (k + 1)) k v
theorem argEnv_at : ∀ (l : List Value) (k i : Nat) (v : Value), argEnv l k i = some v → k ≤ i ∧ l[i - k]? = some v
  | [], k, i, v, h => by simp [argEnv, e0] at h
  | u :: r, k, i, v, h => by
    simp only [argEnv, upd] at h
    cases hb : Nat.beq i k with
    | true =>
      rw [hb] at h
      have : i = k := Nat.eq_of_beq_eq_true hb
      subst this
      simpa using h
    | false =>
      rw [hb] at h
      obtain ⟨h1, h2⟩ := argEnv_at r (k + 1) i v h
      refine ⟨by omega, ?_⟩
      have : i - k = (i - (k + 1)) + 1 := by omega
      rw [this]; simpa using h2
theorem CallsS.of_body {P : Program} {g : FuncId} {fn : Func} {c : Code} {args : List Value} {L : List HP} {R : Value → List HP → Prop} (hf : P.funcs[g]? = some fn) (hb : fn.body = some c)
    (hok : okCode fn.ntmps c = true) (hn : Nat.ble args.length fn.ntmps = true) (h : swp P fn.ntmps c (retS P fn.ntmps fn.results.toList R) (argEnv args 0) L) : CallsS P g args L R := by
  intro F w t
  have hn' : args.length ≤ fn.ntmps := Nat.le_of_ble_eq_true hn
  refine calls_of_wp hf hb (wp_mono (h hok F _ w ?_ t) ?_)
  · refine ⟨rfl, by simp; omega, fun i v e => ?_⟩
    obtain ⟨_, h2⟩ := argEnv_at args 0 i v e
    simp only [Nat.sub_zero] at h2
    have hi : i < args.length := (List.getElem?_eq_some_iff.1 h2).1
    rw [Array.getD_eq_getD_getElem?, Array.getElem?_append_left (by simpa using hi)]
    simp [h2]
  · rintro e a w ⟨f, L', s, t, q⟩
    have fin : (∃ l, RV P fn.ntmps fn.results.toList f L' l ∧ ∃ L'', Ent L' L'' ∧ R (packV l) L'') → a.defers = [] ∧ ∃ v, (results fn a.tmps).run P w = .ok v w ∧ ∃ v' L'', Ending.returned v = .returned v' ∧ St w (L'' ++ F) ∧ R v' L'' := by
      rintro ⟨l, hl, L2, he, r⟩
      refine ⟨s.defers, packV l, ?_, _, _, rfl, he w F t, r⟩
      have e3 : fn.results = fn.results.toList.toArray := by simp
      have h2 := hl F a w s t
      have e4 : results fn a.tmps = (do let vs ← fn.results.mapM (resOf a); pure (if h : vs.size = 1 then vs[0] else .tuple vs)) := by
        unfold results
        congr 1
      rw [e4, e3, List.mapM_toArray]
      simp only [Sem.run_bind, Sem.run_map]
      rw [h2]
      simp only [Result.andThen_ok, Sem.run_pure]
      cases l with
      | nil => rfl
      | cons x l => cases l <;> simp [packV]
    cases e <;> first | exact fin q | exact q.elim
end Go.SX
