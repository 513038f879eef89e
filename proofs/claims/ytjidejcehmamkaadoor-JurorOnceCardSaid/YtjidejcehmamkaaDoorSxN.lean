/- Maps that are owned. No condition. -/
import Derived.Test.YtjidejcehmamkaaDoorSxT
import Derived.MapKept
set_option linter.unusedVariables false
set_option linter.unusedSimpArgs false
set_option linter.unusedSectionVars false
namespace Go.SX
open Go
class KeyT (d : TypeDesc) {κ : Type} [DecidableEq κ] (g : κ → Value) : Prop where
  same : ∀ x y, Instr.sameNow d (g x) (g y) = some (decide (x = y))
  bits : ∀ x, Instr.sameBits 10000 (g x) (g x) = true
  plain : ∀ (P : Program) (t : TypeId), P.underlying t = some d → ∀ (e : Bool) x w, (Instr.checkKey e 10000 t (g x)).run P w = .ok () w
theorem plain_of {d : TypeDesc} {v : Value} (h1 : ∀ ms, d ≠ .interface ms) (h2 : ∀ n e, d ≠ .array n e) (h3 : ∀ fs, d ≠ .struct fs) (P : Program) (t : TypeId) (ht : P.underlying t = some d) (e : Bool) (w : World) : (Instr.checkKey e 10000 t v).run P w = .ok () w := by
  show (Instr.checkKey e (9999 + 1) t v).run P w = .ok () w
  unfold Instr.checkKey
  simp only [Sem.run_bind, run_underlying ht, Result.andThen_ok]
  cases d <;> simp_all
abbrev iK (k : IntKind) : Int → Value := Value.int k
instance {k : IntKind} : KeyT (.int k) (iK k) where
  same x y := by
    simp only [iK, Instr.sameNow]
    by_cases h : x = y <;> simp [h]
  bits x := by simp [iK, Instr.sameBits]
  plain P t h e x w := plain_of (by simp) (by simp) (by simp) P t h e w
theorem bytes_eq (x y : List UInt8) : ((⟨x.toArray⟩ : ByteArray) == ⟨y.toArray⟩) = decide (x = y) := by
  show (x.toArray == y.toArray) = _
  by_cases h : x = y <;> simp [h]
instance : KeyT .string str where
  same x y := by simp only [str, Instr.sameNow, bytes_eq]
  bits x := by simp [str, Instr.sameBits, bytes_eq]
  plain P t h e x w := plain_of (by simp) (by simp) (by simp) P t h e w
def keysOK {κ α : Type} (m : List (κ × α)) : Prop := (m.map (·.1)).Nodup
def entsOK {κ α : Type} (g : κ → Value) (r : α → Value) (m : List (κ × α)) (es : List MapEntry) (clock : Nat) : Prop :=
  es.map (fun e => (e.key, e.val)) = m.map (fun p => (g p.1, r p.2)) ∧ keysOK m ∧ (es.map (·.born)).Pairwise (· < ·) ∧ ∀ e ∈ es, e.born < clock
def mpO {κ α : Type} (g : κ → Value) (r : α → Value) (b : Nat) (m : List (κ × α)) : HP := fun _ h => ∃ (es : Array MapEntry) (clock : Nat), entsOK g r m es.toList clock ∧ h b = some (true, .map es clock)
section
variable {κ α : Type} [DecidableEq κ]
def lkL (m : List (κ × α)) (x : κ) : Option α := (m.find? fun p => decide (p.1 = x)).map (·.2)
def putL (m : List (κ × α)) (x : κ) (a : α) : List (κ × α) := if m.any (fun p => decide (p.1 = x)) then m.map fun p => if p.1 = x then (x, a) else p else m ++ [(x, a)]
def delL (m : List (κ × α)) (x : κ) : List (κ × α) := m.filter fun p => !decide (p.1 = x)
theorem find_none {d : TypeDesc} {g : κ → Value} [K : KeyT d g] (x : κ) : ∀ (es : List MapEntry) (i : Nat), (∀ e ∈ es, ∃ y, e.key = g y ∧ y ≠ x) → Instr.findNow d (g x) es i = some none
  | [], i, _ => rfl
  | e :: es, i, h => by
    obtain ⟨y, h1, h2⟩ := h e (by simp)
    simp only [Instr.findNow, h1, K.same, Ne.symm h2, decide_false]
    exact find_none x es (i + 1) fun e he => h e (by simp [he])
theorem find_some {d : TypeDesc} {g : κ → Value} [K : KeyT d g] (x : κ) : ∀ (p : List MapEntry) (e : MapEntry) (q : List MapEntry) (i : Nat), (∀ e ∈ p, ∃ y, e.key = g y ∧ y ≠ x) → e.key = g x → Instr.findNow d (g x) (p ++ e :: q) i = some (some (i + p.length, e.val))
  | [], e, q, i, _, h => by simp [Instr.findNow, h, K.same]
  | u :: p, e, q, i, hp, h => by
    obtain ⟨y, h1, h2⟩ := hp u (by simp)
    simp only [List.cons_append, Instr.findNow, h1, K.same, Ne.symm h2, decide_false]
    rw [find_some x p e q (i + 1) (fun e he => hp e (by simp [he])) h]
    simp; omega
theorem modify_mid {β : Type} (f : β → β) (e : β) (q : List β) : ∀ p : List β, (p ++ e :: q).modify p.length f = p ++ f e :: q
  | [] => rfl
  | u :: p => by
    have := modify_mid f e q p
    simpa using this
theorem ents_app {g : κ → Value} {r : α → Value} {m1 m2 : List (κ × α)} {es : List MapEntry} (h : es.map (fun e => (e.key, e.val)) = (m1 ++ m2).map (fun p => (g p.1, r p.2))) :
    ∃ p q, es = p ++ q ∧ p.map (fun e => (e.key, e.val)) = m1.map (fun p => (g p.1, r p.2)) ∧ q.map (fun e => (e.key, e.val)) = m2.map (fun p => (g p.1, r p.2)) := by
  refine ⟨es.take m1.length, es.drop m1.length, (List.take_append_drop ..).symm, ?_, ?_⟩
  · rw [List.map_take, h, List.map_append, List.take_left' (by simp)]
  · rw [List.map_drop, h, List.map_append, List.drop_left' (by simp)]
theorem ents_keys {g : κ → Value} {r : α → Value} {m : List (κ × α)} {es : List MapEntry} (h : es.map (fun e => (e.key, e.val)) = m.map (fun p => (g p.1, r p.2))) {x : κ} (hx : ∀ p ∈ m, p.1 ≠ x) : ∀ e ∈ es, ∃ y, e.key = g y ∧ y ≠ x := by
  intro e he
  have : (e.key, e.val) ∈ m.map (fun p => (g p.1, r p.2)) := by rw [← h]; exact List.mem_map_of_mem (f := fun e : MapEntry => (e.key, e.val)) he
  obtain ⟨p, hp, e1⟩ := List.mem_map.1 this
  exact ⟨p.1, (Prod.mk.inj e1).1.symm, hx p hp⟩
theorem keyCase (m : List (κ × α)) (hk : keysOK m) (x : κ) : (∃ p a q, m = p ++ (x, a) :: q ∧ (∀ u ∈ p, u.1 ≠ x) ∧ (∀ u ∈ q, u.1 ≠ x)) ∨ ∀ u ∈ m, u.1 ≠ x := by
  by_cases h : x ∈ m.map (·.1)
  · obtain ⟨u, hu, rfl⟩ := List.mem_map.1 h
    obtain ⟨p, q, rfl⟩ := List.append_of_mem hu
    unfold keysOK at hk
    rw [List.map_append, List.map_cons, List.nodup_append] at hk
    obtain ⟨_, h2, h3⟩ := hk
    refine .inl ⟨p, u.2, q, rfl, fun v hv e => ?_, fun v hv e => ?_⟩
    · exact h3 _ (List.mem_map_of_mem hv) _ (by simp) e
    · exact (List.nodup_cons.1 h2).1 (e ▸ List.mem_map_of_mem hv)
  · exact .inr fun u hu e => h (e ▸ List.mem_map_of_mem hu)
theorem lkL_mid {p q : List (κ × α)} {x : κ} {a : α} (hp : ∀ u ∈ p, u.1 ≠ x) : lkL (p ++ (x, a) :: q) x = some a := by
  have : p.find? (fun u => decide (u.1 = x)) = none := by simp; exact fun a b h => hp (a, b) h
  simp [lkL, List.find?_append, this]
theorem lkL_none {m : List (κ × α)} {x : κ} (h : ∀ u ∈ m, u.1 ≠ x) : lkL m x = none := by
  have : m.find? (fun u => decide (u.1 = x)) = none := by simp; exact fun a b hh => h (a, b) hh
  simp [lkL, this]
theorem map_not {m : List (κ × α)} {x : κ} {a : α} (h : ∀ u ∈ m, u.1 ≠ x) : (m.map fun u => if u.1 = x then (x, a) else u) = m := by
  conv => rhs; rw [← List.map_id m]
  exact List.map_congr_left fun u hu => by simp [h u hu]
theorem putL_mid {p q : List (κ × α)} {x : κ} {a c : α} (hp : ∀ u ∈ p, u.1 ≠ x) (hq : ∀ u ∈ q, u.1 ≠ x) : putL (p ++ (x, a) :: q) x c = p ++ (x, c) :: q := by
  have : ((p ++ (x, a) :: q).any fun u => decide (u.1 = x)) = true := by simp
  rw [putL, if_pos this, List.map_append, List.map_cons, map_not hp, map_not hq]; simp
theorem putL_none {m : List (κ × α)} {x : κ} {c : α} (h : ∀ u ∈ m, u.1 ≠ x) : putL m x c = m ++ [(x, c)] := by
  have : ¬ (m.any fun u => decide (u.1 = x)) = true := by
    simp only [List.any_eq_true, decide_eq_true_eq, not_exists, not_and]; exact h
  rw [putL, if_neg this]
theorem delL_mid {p q : List (κ × α)} {x : κ} {a : α} (hp : ∀ u ∈ p, u.1 ≠ x) (hq : ∀ u ∈ q, u.1 ≠ x) : delL (p ++ (x, a) :: q) x = p ++ q := by
  unfold delL
  rw [List.filter_append, List.filter_cons]
  simp only [decide_true, Bool.not_true, Bool.false_eq_true, if_false]
  rw [List.filter_eq_self.2, List.filter_eq_self.2]
  · intro u hu; simp [hq u hu]
  · intro u hu; simp [hp u hu]
theorem delL_none {m : List (κ × α)} {x : κ} (h : ∀ u ∈ m, u.1 ≠ x) : delL m x = m := List.filter_eq_self.2 fun u hu => by simp [h u hu]
theorem keysOK_mid {p q : List (κ × α)} {x : κ} {a c : α} (h : keysOK (p ++ (x, a) :: q)) : keysOK (p ++ (x, c) :: q) := by simpa [keysOK] using h
theorem putL_ok {m : List (κ × α)} (h : keysOK m) (x : κ) (a : α) : keysOK (putL m x a) := by
  rcases keyCase m h x with ⟨p, b, q, rfl, hp, hq⟩ | hn
  · rw [putL_mid hp hq]; exact keysOK_mid h
  · rw [putL_none hn]
    unfold keysOK at *
    rw [List.map_append, List.nodup_append]
    refine ⟨h, by simp, fun y hy z hz => ?_⟩
    obtain ⟨u, hu, rfl⟩ := List.mem_map.1 hy
    simp at hz; subst hz; exact hn u hu
theorem delL_ok {m : List (κ × α)} (h : keysOK m) (x : κ) : keysOK (delL m x) := by
  unfold keysOK delL at *
  exact List.Sublist.nodup (List.Sublist.map _ List.filter_sublist) h
end
/-! The map at a block of a list. -/
class FindMp (b : Nat) (L : List HP) {κ α : outParam Type} (g : outParam (κ → Value)) (r : outParam (α → Value)) (m : outParam (List (κ × α))) (L' : outParam (HP → List HP)) : Prop where
  at_ : ∃ R, L.Perm (mpO g r b m :: R) ∧ ∀ x, (x :: R).Perm (L' x)
instance FindMp.here {κ α : Type} {b : Nat} {g : κ → Value} {r : α → Value} {m : List (κ × α)} {L : List HP} : FindMp b (mpO g r b m :: L) g r m (fun x => x :: L) := ⟨L, .refl _, fun _ => .refl _⟩
instance (priority := low) FindMp.there {κ α : Type} {b : Nat} {g : κ → Value} {r : α → Value} {m : List (κ × α)} {A : HP} {L : List HP} {L' : HP → List HP} [h : FindMp b L g r m L'] : FindMp b (A :: L) g r m (fun x => A :: L' x) := by
  obtain ⟨R, h1, h2⟩ := h.at_
  exact ⟨A :: R, (h1.cons A).trans (.swap _ _ _), fun x => List.Perm.trans (.swap _ _ _) ((h2 x).cons A)⟩
section
variable {κ α : Type} {g : κ → Value} {r : α → Value} {m : List (κ × α)}
theorem St.mp_open {w : World} {b : Nat} {L : List HP} (H : St w (mpO g r b m :: L)) : ∃ es clock, entsOK g r m es.toList clock ∧ St w (pt b (.map es clock) :: L) := by
  obtain ⟨h, f, h1, h2, o, e, ⟨es, clock, k, hb⟩, l⟩ := H
  exact ⟨es, clock, k, h, f, h1, h2, o, e, hb, l⟩
theorem St.mp_shut {w : World} {b : Nat} {L : List HP} {es : Array MapEntry} {clock : Nat} (k : entsOK g r m es.toList clock) (H : St w (pt b (.map es clock) :: L)) : St w (mpO g r b m :: L) :=
  St.of_sep (L := pt b (.map es clock) :: L) (fun hh ⟨h1, h2, o, e, p, l⟩ => ⟨h1, h2, o, e, ⟨es, clock, k, p⟩, l⟩) H
theorem FindMp.open_ {b : Nat} {L F : List HP} {L' : HP → List HP} (h : FindMp b L g r m L') {w : World} (H : St w (L ++ F)) : ∃ R es clock, entsOK g r m es.toList clock ∧ St w (pt b (.map es clock) :: (R ++ F)) ∧ ∀ x w, St w (x :: (R ++ F)) → St w (L' x ++ F) := by
  obtain ⟨R, p1, p2⟩ := h.at_
  have H1 : St w (mpO g r b m :: (R ++ F)) := by simpa using St.perm (p1.append_right F) H
  obtain ⟨es, clock, k, H2⟩ := St.mp_open H1
  exact ⟨R, es, clock, k, H2, fun x w H => St.perm ((p2 x).append_right F) (by simpa using H)⟩
end
class KTy (P : Program) (t : TypeId) (d : outParam TypeDesc) : Prop where
  und : P.underlying t = some d
instance (priority := low) KTy.ofInt {P : Program} {t : TypeId} {k : IntKind} [h : IntTy P t k] : KTy P t (.int k) := ⟨h.raw⟩
instance (priority := low) KTy.ofStr {P : Program} {t : TypeId} [h : StrTy P t] : KTy P t .string := ⟨h.raw⟩
section
variable {κ α : Type} [DecidableEq κ] {g : κ → Value} {r : α → Value} {m : List (κ × α)}
variable {P : Program} {n : Nat} {ops rest : List Oper} {Q : Post} {f : Env} {L : List HP}
variable {d : Tmp} {ty : TypeId} {pos : String} {af : Array Edge}
theorem run_findKey {kt : TypeId} {dd : TypeDesc} {k : Value} {es : List MapEntry} {o : Option (Nat × Value)} (hk : P.underlying kt = some dd) (h : Instr.findNow dd k es 0 = some o) (w : World) : (Instr.findKey kt k es).run P w = .ok o w := by
  simp [Instr.findKey, run_underlying hk, h]
theorem mpO_new {w : World} {L : List HP} (g : κ → Value) (r : α → Value) (H : St w L) : St { w with heap := w.heap.push (.map #[] 0) } (mpO g r w.heap.size [] :: L) :=
  St.mp_shut (es := #[]) (clock := 0) ⟨rfl, by simp [keysOK], by simp, by simp⟩ (St.pt_new H rfl)
theorem S.mkm {t : TypeId} (g : κ → Value) (r : α → Value) (hk : ∀ b, opsS P n ops rest Q (upd f d (.map (some b))) (mpO g r b [] :: L)) :
    opsS P n ops (⟨some d, .makeMap t none, ty, pos, af, none⟩ :: rest) Q f L := by
  refine opsS_value (R := fun v L' => ∃ b, v = .map (some b) ∧ L' = mpO g r b [] :: L) (fun F a w s t0 => ?_) (by rintro _ _ ⟨b, rfl, rfl⟩; exact hk b)
  exact ⟨.map (some w.heap.size), _, _, by simp [execOp, Instr.makeMap], mpO_new g r t0, _, rfl, rfl⟩
theorem Y.lk {A : List HP} {x y : Operand} {t kt e : TypeId} {dd : TypeDesc} {b : Nat} {q : κ} {sz bts : Nat} {ag : Bool} {zs : List Value} {z : Value} {A' : HP → List HP} [h : MapTy P t kt e] [h1 : KTy P kt dd] [K : KeyT dd g] [h2 : Ty P e ag sz zs bts] [hm : FindMp b A g r m A'] (ok : Bool)
    (hx : ev f x = some (.map (some b))) (hy : ev f y = some (g q)) (hz : ∀ w, (zeroValue e).run P w = .ok z w) :
    YieldS P n ops ⟨some d, .lookup t x y ok, ty, pos, af, none⟩ f A (let v := (match lkL m q with | some u => (r u, true) | none => (z, false)); bif ok then .tuple #[v.1, .bool v.2] else v.1) := by
  refine Y.of' fun a w F s t0 => ?_
  obtain ⟨R, es, clock, ⟨he, hk, _, _⟩, H, _⟩ := hm.open_ t0
  have hb := St.pt_read H
  have hget : (getObj b).run P w = .ok (.map es clock) w := MapKept.run_getObj_map hb
  have hpl := K.plain P kt h1.und es.isEmpty q w
  have hm' : (m.map fun p => (g p.1, r p.2)) = es.toList.map fun e => (e.key, e.val) := he.symm
  rcases keyCase m hk q with ⟨p, u, q', rfl, hp, hq⟩ | hn
  · obtain ⟨ep, eq, e1, e2, e3⟩ := ents_app he
    cases eq with
    | nil => simp at e3
    | cons ee eq =>
      simp only [List.map_cons, List.cons.injEq, Prod.mk.injEq] at e3
      have hf := find_some (d := dd) q ep ee eq 0 (ents_keys e2 hp) e3.1.1
      rw [← e1, Nat.zero_add] at hf
      have hfk := run_findKey (P := P) (kt := kt) h1.und hf w
      rw [lkL_mid hp]
      cases ok <;> simp [execOp, s.eval hx, s.eval hy, Instr.lookup, h.und, hget, hpl, hfk, e3.1.2]
  · have hf := find_none (d := dd) q es.toList 0 (ents_keys he hn)
    have hfk := run_findKey (P := P) (kt := kt) h1.und hf w
    rw [lkL_none hn]
    cases ok <;> simp [execOp, s.eval hx, s.eval hy, Instr.lookup, h.und, hget, hpl, hfk, hz]
theorem Y.lkn {A : List HP} {x y : Operand} {t kt e : TypeId} {dd : TypeDesc} {q : κ} {z : Value} {g : κ → Value} [h : MapTy P t kt e] [h1 : KTy P kt dd] [K : KeyT dd g] (ok : Bool)
    (hx : ev f x = some (.map none)) (hy : ev f y = some (g q)) (hz : ∀ w, (zeroValue e).run P w = .ok z w) :
    YieldS P n ops ⟨some d, .lookup t x y ok, ty, pos, af, none⟩ f A (bif ok then .tuple #[z, .bool false] else z) := by
  refine Y.of' fun a w F s t0 => ?_
  have hpl := K.plain P kt h1.und true q w
  have hfk := run_findKey (P := P) (kt := kt) (es := []) (o := none) (k := g q) h1.und rfl w
  cases ok <;> simp [execOp, s.eval hx, s.eval hy, Instr.lookup, h.und, hpl, hfk, hz]
omit [DecidableEq κ] in
theorem Y.mlen {A : List HP} {x : Operand} {t kt e : TypeId} {b : Nat} {A' : HP → List HP} [h : MapTy P t kt e] [hm : FindMp b A g r m A'] (hx : ev f x = some (.map (some b))) :
    YieldS P n ops ⟨some d, .call ⟨.builtin .len, #[x], #[t]⟩, ty, pos, af, none⟩ f A (.int .i64 m.length) := by
  refine Y.of' fun a w F s t0 => ?_
  obtain ⟨R, es, clock, ⟨he, hk, _, _⟩, H, _⟩ := hm.open_ t0
  have hb := St.pt_read H
  have hget : (getObj b).run P w = .ok (.map es clock) w := MapKept.run_getObj_map hb
  have hl : es.size = m.length := by have := congrArg List.length he; simpa using this
  simp [execOp, resolve, invoke, s.eval hx, builtin, Builtin.len_, h.und, hget, goInt, hl]
theorem St.mp_set {w : World} {b : Nat} {L : List HP} {es es' : Array MapEntry} {clock clock' : Nat} {m' : List (κ × α)} (H : St w (pt b (.map es clock) :: L)) (k : entsOK g r m' es'.toList clock') :
    St { w with heap := w.heap.setIfInBounds b (.map es' clock') } (mpO g r b m' :: L) := by
  have hb := St.pt_read H
  have hlt : b < w.heap.size := (Array.getElem?_eq_some_iff.1 hb).1
  refine St.mp_shut k (St.pt_write H ?_ (fun j hj => ?_))
  · simp [hlt]
  · simp [Ne.symm hj]
theorem S.mu {x y z : Operand} {t kt e : TypeId} {dd : TypeDesc} {b : Nat} {q : κ} {u : α} {L' : HP → List HP} [h : MapTy P t kt e] [h1 : KTy P kt dd] [K : KeyT dd g] [hm : FindMp b L g r m L']
    (hx : ev f x = some (.map (some b))) (hy : ev f y = some (g q)) (hz : ev f z = some (r u)) (hk : opsS P n ops rest Q f (L' (mpO g r b (putL m q u)))) :
    opsS P n ops (⟨none, .mapUpdate t x y z, ty, pos, af, none⟩ :: rest) Q f L := by
  refine opsS_skip1 (L' := L' (mpO g r b (putL m q u))) (fun F a w s t0 => ?_) hk
  obtain ⟨R, es, clock, ⟨he, hkk, hbo, hcl⟩, H, hback⟩ := hm.open_ t0
  have hb := St.pt_read H
  have hget : (getObj b).run P w = .ok (.map es clock) w := MapKept.run_getObj_map hb
  have hset : ∀ o, (setObj b o).run P w = .ok () { w with heap := w.heap.setIfInBounds b o } := fun o => MapKept.run_setObj_map o hb
  have hpl := K.plain P kt h1.und false q w
  rcases keyCase m hkk q with ⟨p, v, q', rfl, hp, hq⟩ | hn
  · obtain ⟨ep, eq, e1, e2, e3⟩ := ents_app he
    cases eq with
    | nil => simp at e3
    | cons ee eq =>
      simp only [List.map_cons, List.cons.injEq, Prod.mk.injEq] at e3
      have hf := find_some (d := dd) q ep ee eq 0 (ents_keys e2 hp) e3.1.1
      rw [← e1, Nat.zero_add] at hf
      have hfk := run_findKey (P := P) (kt := kt) h1.und hf w
      have hat : es[ep.length]? = some ee := by rw [← Array.getElem?_toList, e1]; simp
      have hks : (Instr.keyThatStays ee.key (g q)).run P w = .ok (g q) w := by simp [Instr.keyThatStays, e3.1.1, K.bits]
      refine ⟨_, ?_, hback _ _ (St.mp_set (es' := es.modify (ep.length) fun e => { e with key := g q, val := r u }) (clock' := clock) (m' := putL (p ++ (q, v) :: q') q u) H ?_)⟩
      · simp [execOp, s.eval hx, s.eval hy, s.eval hz, Instr.mapUpdate, h.und, hget, hpl, hfk, hat, hks, hset]
      · have el : (es.modify (ep.length) fun e => { e with key := g q, val := r u }).toList = ep ++ { ee with key := g q, val := r u } :: eq := by
          rw [Array.toList_modify, e1, modify_mid]
        rw [el, putL_mid hp hq]
        refine ⟨?_, keysOK_mid hkk, ?_, fun e' he' => ?_⟩
        · simp only [List.map_append, List.map_cons, e2, e3.2]
        · rw [e1] at hbo; simpa using hbo
        · rw [e1] at hcl
          simp only [List.mem_append, List.mem_cons] at he' hcl
          rcases he' with h' | rfl | h'
          · exact hcl _ (.inl h')
          · exact hcl ee (.inr (.inl rfl))
          · exact hcl _ (.inr (.inr h'))
  · have hf := find_none (d := dd) q es.toList 0 (ents_keys he hn)
    have hfk := run_findKey (P := P) (kt := kt) h1.und hf w
    refine ⟨_, ?_, hback _ _ (St.mp_set (es' := es.push { key := g q, val := r u, born := clock }) (clock' := clock + 1) (m' := putL m q u) H ?_)⟩
    · simp [execOp, s.eval hx, s.eval hy, s.eval hz, Instr.mapUpdate, h.und, hget, hpl, hfk, hset]
    · rw [putL_none hn]
      refine ⟨by simp [he], by rw [← putL_none hn]; exact putL_ok hkk q u, ?_, ?_⟩
      · simp only [Array.toList_push, List.map_append, List.map_cons, List.map_nil]
        rw [List.pairwise_append]
        refine ⟨hbo, by simp, fun a ha c hc => ?_⟩
        obtain ⟨e', he', rfl⟩ := List.mem_map.1 ha
        simp at hc; subst hc; exact hcl e' he'
      · intro e' he'
        simp only [Array.toList_push, List.mem_append, List.mem_singleton] at he'
        rcases he' with h' | rfl
        · have := hcl e' h'; omega
        · simp
theorem S.dl {x y : Operand} {t t' kt e : TypeId} {dd : TypeDesc} {b : Nat} {q : κ} {L' : HP → List HP} [h : MapTy P t kt e] [h1 : KTy P kt dd] [K : KeyT dd g] [hm : FindMp b L g r m L']
    (hx : ev f x = some (.map (some b))) (hy : ev f y = some (g q)) (hk : opsS P n ops rest Q f (L' (mpO g r b (delL m q)))) :
    opsS P n ops (⟨none, .call ⟨.builtin .delete, #[x, y], #[t, t']⟩, ty, pos, af, none⟩ :: rest) Q f L := by
  intro ok F a w s t0
  simp only [okOps, List.all_cons, Bool.and_eq_true] at ok
  refine wpList_plain rfl fun K' hK => ?_
  obtain ⟨R, es, clock, ⟨he, hkk, hbo, hcl⟩, H, hback⟩ := hm.open_ t0
  have hb := St.pt_read H
  have hget : (getObj b).run P w = .ok (.map es clock) w := MapKept.run_getObj_map hb
  have hset : ∀ o, (setObj b o).run P w = .ok () { w with heap := w.heap.setIfInBounds b o } := fun o => MapKept.run_setObj_map o hb
  have hpl := K.plain P kt h1.und es.isEmpty q w
  have key : ∃ w', (execOp a.eval ⟨none, .call ⟨.builtin .delete, #[x, y], #[t, t']⟩, ty, pos, af, none⟩).run P w = .ok (.value (.tuple #[])) w' ∧ St w' (L' (mpO g r b (delL m q)) ++ F) := by
    rcases keyCase m hkk q with ⟨p, v, q', rfl, hp, hq⟩ | hn
    · obtain ⟨ep, eq, e1, e2, e3⟩ := ents_app he
      cases eq with
      | nil => simp at e3
      | cons ee eq =>
        simp only [List.map_cons, List.cons.injEq, Prod.mk.injEq] at e3
        have hf := find_some (d := dd) q ep ee eq 0 (ents_keys e2 hp) e3.1.1
        rw [← e1, Nat.zero_add] at hf
        have hfk := run_findKey (P := P) (kt := kt) h1.und hf w
        refine ⟨_, ?_, hback _ _ (St.mp_set (es' := es.eraseIdxIfInBounds (ep.length)) (clock' := clock) (m' := delL (p ++ (q, v) :: q') q) H ?_)⟩
        · simp [execOp, resolve, invoke, builtin, s.eval hx, s.eval hy, Builtin.delete_, h.und, hget, hpl, hfk, hset]
        · have el : (es.eraseIdxIfInBounds (ep.length)).toList = ep ++ eq := by
            have hl : ep.length < es.size := by have := congrArg List.length e1; simp at this; omega
            rw [Array.eraseIdxIfInBounds, dif_pos hl, Array.toList_eraseIdx, e1, List.eraseIdx_append_of_length_le (Nat.le_refl _)]
            simp
          rw [el]
          refine ⟨?_, delL_ok hkk q, ?_, fun e' he' => ?_⟩
          · rw [delL_mid hp hq]; simp only [List.map_append, e2, e3.2]
          · rw [e1] at hbo
            refine List.Pairwise.sublist ?_ hbo
            exact List.Sublist.map _ (List.Sublist.append_left (List.sublist_cons_self _ _) _)
          · rw [e1] at hcl
            simp only [List.mem_append] at he'
            exact hcl _ (by simp only [List.mem_append, List.mem_cons]; exact he'.imp id .inr)
    · have hf := find_none (d := dd) q es.toList 0 (ents_keys he hn)
      have hfk := run_findKey (P := P) (kt := kt) h1.und hf w
      refine ⟨_, ?_, hback _ _ (St.mp_set (es' := es) (clock' := clock) (m' := delL m q) H ?_)⟩
      · simp [execOp, resolve, invoke, builtin, s.eval hx, s.eval hy, Builtin.delete_, h.und, hget, hpl, hfk, hset]
      · rw [delL_none hn]; exact ⟨he, hkk, hbo, hcl⟩
  obtain ⟨w', hr, ht⟩ := key
  simp only [Oper.wp, hr, Oper.upon]
  exact hK _ _ (hk ok.2 F _ _ (s.put ok.1 _) ht)
end
end Go.SX
