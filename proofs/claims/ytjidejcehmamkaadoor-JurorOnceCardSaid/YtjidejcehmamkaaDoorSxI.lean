/- Function values; maps that are ranged over. No condition. -/
import Derived.Test.YtjidejcehmamkaaDoorSxO
import Derived.Maps.RangeRun
set_option linter.unusedVariables false
set_option linter.unusedSimpArgs false
set_option linter.unusedSectionVars false
namespace Go.SX
open Go
section
variable {P : Program} {n : Nat} {ops rest : List Oper} {Q : Post} {f : Env} {L : List HP}
variable {d : Tmp} {ty : TypeId} {pos : String} {af : Array Edge}
theorem Y.mf {A : List HP} {fn : Fn} {fs cs : Array Operand} {fl cl : List Value} (hf : argsL f fs.toList = some fl) (hc : argsL f cs.toList = some cl) : YieldS P n ops ⟨some d, .makeFunc fn fs cs, ty, pos, af, none⟩ f A (.func fn fl.toArray cl.toArray) := by
  refine Y.of (fun a w s => ?_)
  have e1 : fs.map a.eval = fl.toArray := by obtain ⟨l⟩ := fs; simp [argsL_eq s hf]
  have e2 : cs.map a.eval = cl.toArray := by obtain ⟨l⟩ := cs; simp [argsL_eq s hc]
  simp [execOp, Instr.makeFunc, e1, e2]
theorem S.callF {dd : Option Tmp} {x : Operand} {g : FuncId} {xs : Array Operand} {ats : Array TypeId} {fs args cs : List Value} {L1 L2 : List HP} {R : Value → List HP → Prop} [he : Enters P g] (hv : ev f x = some (.func (.func g) fs.toArray cs.toArray))
    (hx : argsL f xs.toList = some args) (hc : CallsS P g (fs ++ args ++ cs) L1 R) (hL : Ent L (L1 ++ L2)) (hk : ∀ v L', R v L' → opsS P n ops rest Q (updo f dd v) (L' ++ L2)) :
    opsS P n ops (⟨dd, .call ⟨.value x, xs, ats⟩, ty, pos, af, none⟩ :: rest) Q f L := by
  intro ok F a w s t
  simp only [okOps, List.all_cons, Bool.and_eq_true] at ok
  refine wpList_plain rfl fun K hK => ?_
  have hr : (execOp a.eval ⟨dd, .call ⟨.value x, xs, ats⟩, ty, pos, af, none⟩).run P w = .ok (.enter g (fs ++ args ++ cs).toArray) w := by
    have : xs.map a.eval = args.toArray := by
      obtain ⟨xl⟩ := xs
      simp [argsL_eq s hx]
    simp [execOp, resolve, Deferred.ofValue, invoke, this, he.run, s.eval hv]
  simp only [Oper.wp, hr, Oper.upon]
  have H1 := hL w F t
  rw [List.append_assoc] at H1
  refine (hc (L2 ++ F) w H1).mono ?_
  rintro e w' ⟨v, L', rfl, t', r⟩
  exact hK _ _ (hk v L' r ok.2 F _ _ (s.put ok.1 v) (by rwa [List.append_assoc]))
theorem S.crF {x : Operand} {g : FuncId} {xs : Array Operand} {ats : Array TypeId} {fs args cs : List Value} {R : Value → List HP → Prop} [he : Enters P g] (hv : ev f x = some (.func (.func g) fs.toArray cs.toArray))
    (hx : argsL f xs.toList = some args) (hc : CallsS P g (fs ++ args ++ cs) L R) (hk : ∀ v L', R v L' → opsS P n ops rest Q (upd f d v) L') :
    opsS P n ops (⟨some d, .call ⟨.value x, xs, ats⟩, ty, pos, af, none⟩ :: rest) Q f L :=
  S.callF (dd := some d) (L1 := L) (L2 := []) hv hx hc (by simpa using Ent.refl L) (fun v L' r => by simpa [updo] using hk v L' r)
end
/-! A map that is ranged over, and not written meanwhile. -/
section
variable {κ α : Type} {g : κ → Value} {rr : α → Value}
def itP (g : κ → Value) (rr : α → Value) (m : List (κ × α)) (vis : List Nat) (x : Array MapEntry × Nat) : Prop :=
  entsOK g rr m x.1.toList x.2 ∧ vis.Nodup ∧ ∀ i ∈ vis, i < m.length
def itO (g : κ → Value) (rr : α → Value) (b r : Nat) (m : List (κ × α)) (vis : List Nat) : HP :=
  exH fun x : Array MapEntry × Nat => allH [pureH (itP g rr m vis x), pt b (.map x.1 x.2), pt r (.mapIter (some b) x.2 ((vis.map fun i => (x.1[i]!).born).toArray) x.2)]
end
class FindIt (r : Nat) (L : List HP) {κ α : outParam Type} (g : outParam (κ → Value)) (rr : outParam (α → Value)) (b : outParam Nat) (m : outParam (List (κ × α))) (vis : outParam (List Nat)) (L' : outParam (HP → List HP)) : Prop where
  at_ : ∃ R, L.Perm (itO g rr b r m vis :: R) ∧ ∀ x, (x :: R).Perm (L' x)
instance FindIt.here {κ α : Type} {r b : Nat} {g : κ → Value} {rr : α → Value} {m : List (κ × α)} {vis : List Nat} {L : List HP} : FindIt r (itO g rr b r m vis :: L) g rr b m vis (fun x => x :: L) := ⟨L, .refl _, fun _ => .refl _⟩
instance (priority := low) FindIt.there {κ α : Type} {r b : Nat} {g : κ → Value} {rr : α → Value} {m : List (κ × α)} {vis : List Nat} {A : HP} {L : List HP} {L' : HP → List HP} [h : FindIt r L g rr b m vis L'] : FindIt r (A :: L) g rr b m vis (fun x => A :: L' x) := by
  obtain ⟨R, h1, h2⟩ := h.at_
  exact ⟨A :: R, (h1.cons A).trans (.swap _ _ _), fun x => List.Perm.trans (.swap _ _ _) ((h2 x).cons A)⟩
section
variable {κ α : Type} {g : κ → Value} {rr : α → Value} {m : List (κ × α)} {vis : List Nat}
theorem itO_shut {b r : Nat} {L : List HP} {x : Array MapEntry × Nat} (h : itP g rr m vis x) : Ent (pt b (.map x.1 x.2) :: pt r (.mapIter (some b) x.2 ((vis.map fun i => (x.1[i]!).born).toArray) x.2) :: L) (itO g rr b r m vis :: L) :=
  Ent.trans (Ent.shut_pure h) (Ent.trans (Ent.shut_all (L := [_, _, _])) (Ent.shut_ex (P := fun x : Array MapEntry × Nat => allH [pureH (itP g rr m vis x), pt b (.map x.1 x.2), pt r (.mapIter (some b) x.2 ((vis.map fun i => (x.1[i]!).born).toArray) x.2)]) x))
theorem St.it_open {w : World} {b r : Nat} {L : List HP} (H : St w (itO g rr b r m vis :: L)) : ∃ x, itP g rr m vis x ∧ St w (pt b (.map x.1 x.2) :: pt r (.mapIter (some b) x.2 ((vis.map fun i => (x.1[i]!).born).toArray) x.2) :: L) := by
  obtain ⟨x, H⟩ := St.open_ex H
  have H := Ent.open_all (L := [_, _, _]) (M := L) w [] (by simpa using H)
  obtain ⟨h, H⟩ := St.open_pure (by simpa using H)
  exact ⟨x, h, H⟩
theorem itO_map {b r : Nat} {L : List HP} : Ent (itO g rr b r m vis :: L) (mpO g rr b m :: L) := fun w F H => by
  obtain ⟨x, h, H⟩ := St.it_open (L := L ++ F) H
  refine St.mp_shut (es := x.1) (clock := x.2) h.1 ?_
  exact (St.perm (.swap _ _ _) H).tail
theorem FindIt.open_ {r b : Nat} {L F : List HP} {L' : HP → List HP} (h : FindIt r L g rr b m vis L') {w : World} (H : St w (L ++ F)) : ∃ R x, itP g rr m vis x ∧ St w (pt b (.map x.1 x.2) :: pt r (.mapIter (some b) x.2 ((vis.map fun i => (x.1[i]!).born).toArray) x.2) :: (R ++ F)) ∧ ∀ y w, St w (y :: (R ++ F)) → St w (L' y ++ F) := by
  obtain ⟨R, p1, p2⟩ := h.at_
  have H1 : St w (itO g rr b r m vis :: (R ++ F)) := by simpa using St.perm (p1.append_right F) H
  obtain ⟨x, k, H2⟩ := St.it_open H1
  exact ⟨R, x, k, H2, fun x w H => St.perm ((p2 x).append_right F) (by simpa using H)⟩
theorem ents_at {es : Array MapEntry} {clock : Nat} (h : entsOK g rr m es.toList clock) {i : Nat} (hi : i < m.length) : ∃ (e : MapEntry) (p : κ × α), es.toList[i]? = some e ∧ m[i]? = some p ∧ es[i]! = e ∧ e.key = g p.1 ∧ e.val = rr p.2 := by
  have hl : es.toList.length = m.length := by have := congrArg List.length h.1; simpa using this
  have hi' : i < es.toList.length := by omega
  refine ⟨es.toList[i], m[i], List.getElem?_eq_getElem hi', List.getElem?_eq_getElem hi, by simp [getElem!_def, show i < es.size by simpa using hi'], ?_⟩
  have := congrArg (fun l => l[i]?) h.1
  simp [hi, show i < es.size by simpa using hi'] at this
  simpa using this
theorem born_inj {es : Array MapEntry} {clock : Nat} (h : entsOK g rr m es.toList clock) {i j : Nat} (hi : i < es.size) (hj : j < es.size) (e : (es[i]!).born = (es[j]!).born) : i = j := by
  have h3 := h.2.2.1
  rw [List.pairwise_map] at h3
  rw [List.pairwise_iff_getElem] at h3
  have gi : es[i]! = es.toList[i]'(by simpa using hi) := by simp [getElem!_def, hi]
  have gj : es[j]! = es.toList[j]'(by simpa using hj) := by simp [getElem!_def, hj]
  rw [gi, gj] at e
  rcases Nat.lt_trichotomy i j with h | h | h
  · have := h3 i j (by simpa using hi) (by simpa using hj) h; omega
  · exact h
  · have := h3 j i (by simpa using hj) (by simpa using hi) h; omega
end
section
variable {κ α : Type} {g : κ → Value} {rr : α → Value} {m : List (κ × α)} {vis : List Nat}
variable {P : Program} {n : Nat} {ops rest : List Oper} {Q : Post} {f : Env} {L : List HP}
variable {d : Tmp} {ty : TypeId} {pos : String} {af : Array Edge}
theorem S.rg {x : Operand} {t kt e : TypeId} {b : Nat} {L' : HP → List HP} [h : MapTy P t kt e] [hm : FindMp b L g rr m L'] (hx : ev f x = some (.map (some b)))
    (hk : ∀ r, opsS P n ops rest Q (upd f d (.pointer (some ⟨r, 0, none⟩))) (L' (itO g rr b r m []))) : opsS P n ops (⟨some d, .range t x, ty, pos, af, none⟩ :: rest) Q f L := by
  refine opsS_value (R := fun v L1 => ∃ r, v = .pointer (some ⟨r, 0, none⟩) ∧ L1 = L' (itO g rr b r m [])) (fun F a w s t0 => ?_) (by rintro _ _ ⟨r, rfl, rfl⟩; exact hk r)
  obtain ⟨R, es, clock, hes, H, hback⟩ := hm.open_ t0
  have hb := St.pt_read H
  have hget : (getObj b).run P w = .ok (.map es clock) w := MapKept.run_getObj_map hb
  refine ⟨.pointer (some ⟨w.heap.size, 0, none⟩), { w with heap := w.heap.push (.mapIter (some b) clock #[] clock) }, _, ?_, ?_, _, rfl, rfl⟩
  · simp [execOp, Instr.range, s.eval hx, h.und, hget, newObj, Sem.run]
  · refine hback _ _ ?_
    have H2 := St.pt_new (w' := { w with heap := w.heap.push (.mapIter (some b) clock #[] clock) }) H rfl
    have H3 := itO_shut (g := g) (rr := rr) (m := m) (vis := []) (b := b) (r := w.heap.size) (L := R) (x := (es, clock)) ⟨hes, by simp, by simp⟩ { w with heap := w.heap.push (.mapIter (some b) clock #[] clock) } F
    exact H3 (St.perm (.swap _ _ _) H2)
theorem S.rgn {x : Operand} {t kt e : TypeId} [h : MapTy P t kt e] (hx : ev f x = some (.map none))
    (hk : ∀ r, opsS P n ops rest Q (upd f d (.pointer (some ⟨r, 0, none⟩))) (pt r (.mapIter none 0 #[] 0) :: L)) : opsS P n ops (⟨some d, .range t x, ty, pos, af, none⟩ :: rest) Q f L := by
  refine opsS_value (R := fun v L1 => ∃ r, v = .pointer (some ⟨r, 0, none⟩) ∧ L1 = pt r (.mapIter none 0 #[] 0) :: L) (fun F a w s t0 => ?_) (by rintro _ _ ⟨r, rfl, rfl⟩; exact hk r)
  exact ⟨.pointer (some ⟨w.heap.size, 0, none⟩), _, _, by simp [execOp, Instr.range, s.eval hx, h.und, newObj, Sem.run], St.new t0, _, rfl, rfl⟩
theorem left_none {es : Array MapEntry} {clock : Nat} (h : itP g rr m vis (es, clock)) (h0 : (leftOf es ((vis.map fun i => (es[i]!).born).toArray)).size = 0) : ∀ i, i < m.length → i ∈ vis := by
  intro i hi
  obtain ⟨e, p, h1, h2, h3, h4⟩ := ents_at h.1 hi
  have hl : es.size = m.length := by have := congrArg List.length h.1.1; simpa using this
  have : leftOf es ((vis.map fun i => (es[i]!).born).toArray) = #[] := Array.eq_empty_of_size_eq_zero h0
  unfold leftOf at this
  rw [Array.filter_eq_empty_iff] at this
  have hm : e ∈ es := by rw [← Array.mem_toList_iff]; exact List.mem_of_getElem? h1
  have := this e hm
  simp at this
  obtain ⟨j, hj, hb⟩ := this
  have : j = i := born_inj h.1 (by have := h.2.2 j hj; show j < es.size; omega) (by show i < es.size; omega) (by rw [hb, h3])
  rwa [← this]
theorem left_some {es : Array MapEntry} {clock : Nat} (h : itP g rr m vis (es, clock)) {e : MapEntry} (he : e ∈ (leftOf es ((vis.map fun i => (es[i]!).born).toArray)).toList) : ∃ (i : Nat) (p : κ × α), i < m.length ∧ m[i]? = some p ∧ i ∉ vis ∧ es[i]! = e ∧ e.key = g p.1 ∧ e.val = rr p.2 := by
  have hl : es.size = m.length := by have := congrArg List.length h.1.1; simpa using this
  unfold leftOf at he
  simp only [Array.toList_filter, List.mem_filter, Array.mem_toList_iff] at he
  obtain ⟨h1, h2⟩ := he
  obtain ⟨i, hi, rfl⟩ := Array.mem_iff_getElem.1 h1
  obtain ⟨e, p, g1, g2, g3, g4, g5⟩ := ents_at h.1 (i := i) (by omega)
  have ge : es[i] = e := by rw [← g3]; simp [getElem!_def, hi]
  refine ⟨i, p, by omega, g2, fun hv => ?_, by rw [ge]; exact g3, by rw [ge]; exact g4, by rw [ge]; exact g5⟩
  simp at h2
  exact h2 i hv (by rw [g3, ge])
theorem S.nx {x : Operand} {r b : Nat} {L' : HP → List HP} [hm : FindIt r L g rr b m vis L'] (hx : ev f x = some (.pointer (some ⟨r, 0, none⟩)))
    (hend : (∀ i, i < m.length → i ∈ vis) → opsS P n ops rest Q (upd f d (.tuple #[.bool false])) (L' (itO g rr b r m vis)))
    (hstep : ∀ i p, m[i]? = some p → i ∉ vis → opsS P n ops rest Q (upd f d (.tuple #[.bool true, g p.1, rr p.2])) (L' (itO g rr b r m (vis ++ [i])))) :
    opsS P n ops (⟨some d, .next x false, ty, pos, af, none⟩ :: rest) Q f L := by
  refine opsS_value (R := fun v L1 => ((∀ i, i < m.length → i ∈ vis) ∧ v = .tuple #[.bool false] ∧ L1 = L' (itO g rr b r m vis)) ∨ ∃ i p, m[i]? = some p ∧ i ∉ vis ∧ v = .tuple #[.bool true, g p.1, rr p.2] ∧ L1 = L' (itO g rr b r m (vis ++ [i])))
    (fun F a w s t0 => ?_) (by
      rintro _ _ (⟨h, rfl, rfl⟩ | ⟨i, p, h1, h2, rfl, rfl⟩)
      · exact hend h
      · exact hstep i p h1 h2)
  obtain ⟨R, ⟨es, clock⟩, hes, H, hback⟩ := hm.open_ t0
  have hb := St.pt_read H
  have hr := St.pt_read (St.perm (.swap _ _ _) H)
  dsimp only at hb hr
  rcases run_next_at (P := P) w ty r b clock clock _ es clock hr hb (fun x hx => hes.1.2.2.2 x hx) (Nat.le_refl _) with ⟨h0, hrun⟩ | ⟨e, he, w1, hw1, hrun⟩
  · refine ⟨_, w, _, by simp [execOp, s.eval hx, hrun], hback _ _ (itO_shut (L := R) hes w F H), .inl ⟨left_none hes h0, rfl, rfl⟩⟩
  · obtain ⟨i, p, h1, h2, h3, h4, h5, h6⟩ := left_some hes he
    refine ⟨.tuple #[.bool true, g p.1, rr p.2], @ChangeMaps.setBlock w1 r (.mapIter (some b) clock (((vis.map fun i => (es[i]!).born).toArray).push e.born) clock), _, by simp [execOp, s.eval hx, hrun, h5, h6], hback _ _ ?_, .inr ⟨i, p, h2, h3, rfl, rfl⟩⟩
    have e1 : w1.heap = w.heap := by rcases hw1 with rfl | rfl <;> rfl
    have e2 : SX.ext w1 = SX.ext w := by rcases hw1 with rfl | rfl <;> rfl
    have hlt : r < w.heap.size := (Array.getElem?_eq_some_iff.1 hr).1
    have H1 := St.perm (.swap _ _ _) H
    have H2 := St.pt_write (w' := @ChangeMaps.setBlock w1 r (.mapIter (some b) clock (((vis.map fun i => (es[i]!).born).toArray).push e.born) clock)) (o' := .mapIter (some b) clock (((vis.map fun i => (es[i]!).born).toArray).push e.born) clock) H1
      (by simp [ChangeMaps.setBlock, e1, hlt]) (fun k hk => by simp [ChangeMaps.setBlock, e1, Ne.symm hk]) (by rw [← e2]; rfl)
    have e3 : ((vis.map fun i => (es[i]!).born).toArray).push e.born = ((vis ++ [i]).map fun i => (es[i]!).born).toArray := by simp [h4]
    rw [e3] at H2 ⊢
    exact itO_shut (L := R) (x := (es, clock)) ⟨hes.1, List.nodup_append.2 ⟨hes.2.1, by simp, fun x hx y hy => by simp at hy; subst hy; exact fun e => h3 (e ▸ hx)⟩, fun j hj => by
      rcases List.mem_append.1 hj with hj | hj
      · exact hes.2.2 j hj
      · simp at hj; omega⟩ _ F (St.perm (.swap _ _ _) H2)
theorem S.nxn {x : Operand} {r : Nat} {L0 : List HP} [hp : Pick (pt r (.mapIter none 0 #[] 0)) L L0] (hx : ev f x = some (.pointer (some ⟨r, 0, none⟩)))
    (hend : opsS P n ops rest Q (upd f d (.tuple #[.bool false])) (pt r (.mapIter none 0 #[] 0) :: L0)) : opsS P n ops (⟨some d, .next x false, ty, pos, af, none⟩ :: rest) Q f L := by
  refine opsS_ent hp.ent ?_
  refine opsS_value (R := fun v L1 => v = .tuple #[.bool false] ∧ L1 = pt r (.mapIter none 0 #[] 0) :: L0) (fun F a w s t0 => ?_) (by rintro _ _ ⟨rfl, rfl⟩; exact hend)
  have hr := St.pt_read t0
  exact ⟨_, w, _, by simp [execOp, s.eval hx, Instr.next, getObj, Sem.run, hr], t0, rfl, rfl⟩
theorem Y.en {A : List HP} {x : Operand} {r b i : Nat} {p : κ × α} {A' : HP → List HP} [hm : FindIt r A g rr b m (vis ++ [i]) A'] (hx : ev f x = some (.pointer (some ⟨r, 0, none⟩))) (hp : m[i]? = some p) :
    YieldS P n ops ⟨some d, .entry x, ty, pos, af, none⟩ f A (.tuple #[g p.1, rr p.2]) := by
  refine Y.of' fun a w F s t0 => ?_
  obtain ⟨R, ⟨es, clock⟩, hes, H, hback⟩ := hm.open_ t0
  have hb := St.pt_read H
  have hr := St.pt_read (St.perm (.swap _ _ _) H)
  dsimp only at hb hr
  obtain ⟨e, p', g1, g2, g3, g4, g5⟩ := ents_at hes.1 (i := i) (List.getElem?_eq_some_iff.1 hp).1
  rw [hp] at g2
  obtain rfl := Option.some.inj g2
  have hr2 : w.heap[r]? = some (.mapIter (some b) clock (((vis.map fun i => (es[i]!).born).toArray).push e.born) clock) := by rw [hr]; simp [g3]
  have := run_entry_at (P := P) w r b clock _ es clock e hr2 hb (List.mem_of_getElem? g1) ((hes.1.2.2.1.imp fun h => Nat.ne_of_lt h))
  simp [execOp, s.eval hx, this, g4, g5]
end
theorem vis_perm {vis : List Nat} {k : Nat} (h1 : vis.Nodup) (h2 : ∀ i ∈ vis, i < k) (h3 : ∀ i, i < k → i ∈ vis) : vis.Perm (List.range k) :=
  (List.perm_ext_iff_of_nodup h1 List.nodup_range).2 fun i => by simp; exact ⟨h2 i, h3 i⟩
theorem range_get {α : Type} (l : List α) : ∀ k, k ≤ l.length → (List.range k).filterMap (fun i => l[i]?) = l.take k
  | 0, _ => by simp
  | k + 1, h => by
    have hk : k < l.length := by omega
    rw [List.range_succ, List.filterMap_append, range_get l k (by omega), List.take_add_one]
    simp [hk]
theorem range_map {α β : Type} (f : α → β) (l : List α) : (List.range l.length).filterMap (fun i => (l[i]?).map f) = l.map f := by
  have := range_get (l.map f) l.length (by simp)
  rw [List.take_of_length_le (by simp)] at this
  rw [← this]
  congr 1
  funext i
  simp
theorem vis_map {α β : Type} (f : α → β) {l : List α} {vis : List Nat} (h1 : vis.Nodup) (h2 : ∀ i ∈ vis, i < l.length) (h3 : ∀ i, i < l.length → i ∈ vis) : (vis.filterMap fun i => (l[i]?).map f).Perm (l.map f) := by
  rw [← range_map f l]
  exact (vis_perm h1 h2 h3).filterMap _
theorem vis_len {vis : List Nat} {k : Nat} (h1 : vis.Nodup) (h2 : ∀ i ∈ vis, i < k) : vis.length ≤ k := by
  have := List.Nodup.length_le_of_subset (l₂ := List.range k) h1 (fun i hi => by simpa using h2 i hi)
  simpa using this
theorem vis_more {vis : List Nat} {k i : Nat} (h1 : vis.Nodup) (h2 : ∀ i ∈ vis, i < k) (hi : i < k) (hn : i ∉ vis) : (vis ++ [i]).Nodup ∧ (∀ j ∈ vis ++ [i], j < k) ∧ vis.length < k := by
  have hnd : (vis ++ [i]).Nodup := List.nodup_append.2 ⟨h1, by simp, fun x hx y hy => by simp at hy; subst hy; exact fun e => hn (e ▸ hx)⟩
  have hlt : ∀ j ∈ vis ++ [i], j < k := fun j hj => by
    rcases List.mem_append.1 hj with hj | hj
    · exact h2 j hj
    · simp at hj; omega
  have := vis_len hnd hlt
  simp at this
  exact ⟨hnd, hlt, by omega⟩
end Go.SX
