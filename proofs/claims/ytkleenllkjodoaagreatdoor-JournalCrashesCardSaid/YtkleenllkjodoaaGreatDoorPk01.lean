/- Separation logic over the model's heap: parts of a heap, lists of assertions, states. Weakest preconditions over lists of assertions: codes, loops, operations one by one, calls. The operations, one by one, over lists of assertions. The operations that touch no memory, and those on single places. The operations that write or make memory; calls. Small steps between codes; ends. The builtins: append, copy, clear, min, max; slices that are owned. A region whose order is open: what only reads is taken first; the rest in each order that its edges allow. What operations yield that touch no memory, or read it alone. Slices that can be read; maps of immutable blocks; bytes. More builtins: append in place, clear, cuts of arrays, bytes as strings. No condition. -/
import Derived.WalkKit
import Derived.Deep.AppendSrc
import Derived.Orders
import Derived.KernelRfl
set_option linter.unusedVariables false
set_option linter.unusedSimpArgs false
set_option linter.unusedSectionVars false
namespace Go.SX
open Go
def Hp := Nat → Option (Bool × Obj)
def Hp.ok (h k : Hp) : Prop := ∀ b p o q o', h b = some (p, o) → k b = some (q, o') → p = false ∧ q = false ∧ o = o'
def Hp.add (h k : Hp) : Hp := fun b => (h b).or (k b)
def Hp.fits (h : Hp) (w : World) : Prop := ∀ b p o, h b = some (p, o) → w.heap[b]? = some o
abbrev Ext := Os × Array (Nat × ByteArray)
def ext (w : World) : Ext := (w.os, w.output)
abbrev HP := Ext → Hp → Prop
variable {g : Ext}
theorem Hp.ok_symm {h k : Hp} (H : h.ok k) : k.ok h := fun b p o q o' e1 e2 => by
  obtain ⟨a, b, c⟩ := H b q o' p o e2 e1; exact ⟨b, a, c.symm⟩
theorem Hp.add_comm {h k : Hp} (H : h.ok k) : h.add k = k.add h := by
  funext b
  simp only [Hp.add]
  cases e1 : h b with
  | none => cases e2 : k b <;> rfl
  | some x =>
    cases e2 : k b with
    | none => rfl
    | some y =>
      obtain ⟨p, o⟩ := x; obtain ⟨q, o'⟩ := y
      obtain ⟨rfl, rfl, rfl⟩ := H b p o q o' e1 e2; rfl
theorem Hp.add_assoc (h k l : Hp) : (h.add k).add l = h.add (k.add l) := by
  funext b; simp only [Hp.add]; cases h b <;> rfl
theorem Hp.ok_add_left {h k l : Hp} (H : (h.add k).ok l) : h.ok l := fun b p o q o' e1 e2 =>
  H b p o q o' (by simp [Hp.add, e1]) e2
theorem Hp.ok_add_right {h k l : Hp} (hk : h.ok k) (H : (h.add k).ok l) : k.ok l := fun b p o q o' e1 e2 => by
  refine H b p o q o' ?_ e2
  rw [Hp.add_comm hk]; simp [Hp.add, e1]
theorem Hp.ok_add {h k l : Hp} (H1 : h.ok l) (H2 : k.ok l) : (h.add k).ok l := fun b p o q o' e1 e2 => by
  simp only [Hp.add] at e1
  cases e : h b with
  | none => rw [e] at e1; exact H2 b p o q o' e1 e2
  | some x => rw [e] at e1; exact H1 b p o q o' (by rw [e]; exact e1) e2
theorem Hp.ok_add' {h k l : Hp} (H1 : h.ok k) (H2 : h.ok l) : h.ok (k.add l) := Hp.ok_symm (Hp.ok_add (Hp.ok_symm H1) (Hp.ok_symm H2))
theorem Hp.ok_left' {h k l : Hp} (H : h.ok (k.add l)) : h.ok k := Hp.ok_symm (Hp.ok_add_left (Hp.ok_symm H))
theorem Hp.ok_right' {h k l : Hp} (hk : k.ok l) (H : h.ok (k.add l)) : h.ok l := Hp.ok_symm (Hp.ok_add_right hk (Hp.ok_symm H))
theorem Hp.fits_left {h k : Hp} {w : World} (H : (h.add k).fits w) : h.fits w := fun b p o e => H b p o (by simp [Hp.add, e])
theorem Hp.fits_right {h k : Hp} {w : World} (hk : h.ok k) (H : (h.add k).fits w) : k.fits w := Hp.fits_left (Hp.add_comm hk ▸ H)
theorem Hp.fits_add {h k : Hp} {w : World} (h1 : h.fits w) (h2 : k.fits w) : (h.add k).fits w := fun b p o e => by
  simp only [Hp.add] at e
  cases e1 : h b with
  | none => rw [e1] at e; exact h2 b p o e
  | some x => rw [e1] at e; exact h1 b p o (by rw [e1]; exact e)
def sepH (g : Ext) : List HP → Hp → Prop
  | [] => fun _ => True
  | P :: L => fun h => ∃ h1 h2, h1.ok h2 ∧ h = h1.add h2 ∧ P g h1 ∧ sepH g L h2
theorem sepH_swap {A B : HP} {L : List HP} {h : Hp} (H : sepH g (A :: B :: L) h) : sepH g (B :: A :: L) h := by
  obtain ⟨h1, h2, o, rfl, a, h3, h4, o', rfl, b, l⟩ := H
  refine ⟨h3, h1.add h4, ?_, ?_, b, h1, h4, Hp.ok_right' o' o, rfl, a, l⟩
  · exact Hp.ok_add' (Hp.ok_symm (Hp.ok_left' o)) o'
  · rw [← Hp.add_assoc, ← Hp.add_assoc, Hp.add_comm (Hp.ok_left' o)]
theorem sepH_cons_mono {A : HP} {L L' : List HP} (H : ∀ h, sepH g L h → sepH g L' h) {h : Hp} (h0 : sepH g (A :: L) h) : sepH g (A :: L') h := by
  obtain ⟨h1, h2, o, rfl, a, l⟩ := h0; exact ⟨h1, h2, o, rfl, a, H _ l⟩
theorem sepH_perm {L L' : List HP} (p : L.Perm L') : ∀ {h : Hp}, sepH g L h → sepH g L' h := by
  induction p with
  | nil => exact fun H => H
  | cons x _ ih => exact fun H => sepH_cons_mono (fun _ => ih) H
  | swap x y l => exact fun H => sepH_swap H
  | trans _ _ ih1 ih2 => exact fun H => ih2 (ih1 H)
theorem sepH_append {L M : List HP} : ∀ {h : Hp}, sepH g (L ++ M) h ↔ ∃ h1 h2, h1.ok h2 ∧ h = h1.add h2 ∧ sepH g L h1 ∧ sepH g M h2 := by
  induction L with
  | nil =>
    intro h
    constructor
    · intro H
      refine ⟨fun _ => none, h, ?_, ?_, trivial, H⟩
      · intro b p o q o' e; simp at e
      · funext b; simp [Hp.add]
    · rintro ⟨h1, h2, o, rfl, _, H⟩
      cases M with
      | nil => trivial
      | cons A M =>
        obtain ⟨h3, h4, o', rfl, a, m⟩ := H
        refine ⟨h3, h4.add h1, ?_, ?_, a, ?_⟩
        · exact Hp.ok_add' o' (Hp.ok_symm (Hp.ok_left' o))
        · rw [Hp.add_comm o, Hp.add_assoc]
        · -- what is left over is dropped
          revert m
          have : ∀ (M : List HP) (k l : Hp), k.ok l → sepH g M k → sepH g M (k.add l) := by
            intro M
            induction M with
            | nil => intros; trivial
            | cons B M ih =>
              rintro k l ok ⟨k1, k2, o2, rfl, b, m⟩
              exact ⟨k1, k2.add l, Hp.ok_add' o2 (Hp.ok_add_left ok), by rw [Hp.add_assoc], b, ih _ _ (Hp.ok_add_right o2 ok) m⟩
          intro m
          exact this M h4 h1 (Hp.ok_symm (Hp.ok_right' o' o)) m
  | cons A L ih =>
    intro h
    constructor
    · rintro ⟨h1, h2, o, rfl, a, H⟩
      obtain ⟨h3, h4, o', rfl, l, m⟩ := ih.1 H
      exact ⟨h1.add h3, h4, Hp.ok_add (Hp.ok_right' o' o) o', by rw [Hp.add_assoc], ⟨h1, h3, Hp.ok_left' o, rfl, a, l⟩, m⟩
    · rintro ⟨h1, h2, o, rfl, ⟨h3, h4, o', rfl, a, l⟩, m⟩
      refine ⟨h3, h4.add h2, Hp.ok_add' o' (Hp.ok_add_left o), by rw [Hp.add_assoc], a, ih.2 ⟨h4, h2, Hp.ok_add_right o' o, rfl, l, m⟩⟩
def St (w : World) (L : List HP) : Prop := ∃ h : Hp, h.fits w ∧ sepH (ext w) L h
def Ent (L L' : List HP) : Prop := ∀ w F, St w (L ++ F) → St w (L' ++ F)
theorem St.perm {w : World} {L L' : List HP} (p : L.Perm L') (H : St w L) : St w L' := by
  obtain ⟨h, f, s⟩ := H; exact ⟨h, f, sepH_perm p s⟩
theorem St.heap {w w' : World} {L : List HP} (h : w'.heap = w.heap) (H : St w L) (he : ext w' = ext w := by rfl) : St w' L := by
  obtain ⟨h0, f, s⟩ := H; exact ⟨h0, fun b p o e => by rw [h]; exact f b p o e, by rw [he]; exact s⟩
theorem St.of_sep {w : World} {L L' : List HP} (h : ∀ k, sepH (ext w) L k → sepH (ext w) L' k) (H : St w L) : St w L' := by
  obtain ⟨h0, f, s⟩ := H; exact ⟨h0, f, h _ s⟩
theorem St.tail {w : World} {A : HP} {L : List HP} (H : St w (A :: L)) : St w L := by
  obtain ⟨h, f, h1, h2, o, rfl, a, l⟩ := H; exact ⟨h2, Hp.fits_right o f, l⟩
theorem St.drop_left {w : World} {M : List HP} : ∀ {L : List HP}, St w (L ++ M) → St w M
  | [], H => H
  | _ :: L, H => St.drop_left (L := L) H.tail
theorem St.drop_all (w : World) : St w [] := ⟨(fun _ => none : Nat → Option (Bool × Obj)), fun b p o e => by simp at e, trivial⟩
theorem Ent.refl (L : List HP) : Ent L L := fun _ _ H => H
theorem Ent.trans {L M N : List HP} (h1 : Ent L M) (h2 : Ent M N) : Ent L N := fun _ _ H => h2 _ _ (h1 _ _ H)
theorem Ent.perm {L L' : List HP} (p : L.Perm L') : Ent L L' := fun _ F H => St.perm (p.append_right F) H
theorem Ent.nil {L : List HP} : Ent L [] := fun _ _ H => St.drop_left H
theorem Ent.cons {A : HP} {L L' : List HP} (h : Ent L L') : Ent (A :: L) (A :: L') := fun w F H =>
  St.perm List.perm_middle (h w (A :: F) (St.perm List.perm_middle.symm H))
theorem Ent.drop {A : HP} {L L' : List HP} (h : Ent L L') : Ent (A :: L) L' := fun w F H => h w F H.tail
theorem Ent.app {L L' M : List HP} (h : Ent L L') : Ent (L ++ M) (L' ++ M) := fun w F H => by
  rw [List.append_assoc] at H ⊢; exact h w (M ++ F) H
def allH (L : List HP) : HP := fun g => sepH g L
def exH {α : Sort _} (P : α → HP) : HP := fun g h => ∃ x, P x g h
def pureH (φ : Prop) : HP := fun _ _ => φ
theorem Ent.open_all {L M : List HP} : Ent (allH L :: M) (L ++ M) := fun _ F H => by
  rw [List.append_assoc]; exact St.of_sep (L := allH L :: (M ++ F)) (fun _ h => sepH_append.2 h) H
theorem Ent.shut_all {L M : List HP} : Ent (L ++ M) (allH L :: M) := fun _ F H => by
  rw [List.append_assoc] at H; exact St.of_sep (fun _ h => sepH_append.1 h) H
theorem Ent.shut_ex {α : Sort _} {P : α → HP} (x : α) {M : List HP} : Ent (P x :: M) (exH P :: M) := fun _ F H =>
  St.of_sep (L := P x :: (M ++ F)) (fun h ⟨h1, h2, o, e, p, m⟩ => ⟨h1, h2, o, e, ⟨x, p⟩, m⟩) H
theorem St.open_ex {α : Sort _} {P : α → HP} {w : World} {M : List HP} (H : St w (exH P :: M)) : ∃ x, St w (P x :: M) := by
  obtain ⟨h0, f, h1, h2, o, e, ⟨x, p⟩, m⟩ := H; exact ⟨x, h0, f, h1, h2, o, e, p, m⟩
theorem Ent.shut_pure {φ : Prop} (h : φ) {M : List HP} : Ent M (pureH φ :: M) := fun _ F H =>
  St.of_sep (fun hh H => ⟨(fun _ => none : Nat → Option (Bool × Obj)), hh, fun b p o q o' e => by simp at e, by funext b; simp [Hp.add], h, H⟩) H
theorem St.open_pure {φ : Prop} {w : World} {M : List HP} (H : St w (pureH φ :: M)) : φ ∧ St w M := by
  refine ⟨?_, H.tail⟩
  obtain ⟨h0, f, h1, h2, o, e, p, m⟩ := H; exact p
def pt (b : Nat) (o : Obj) : HP := fun _ h => h b = some (true, o)
def ro (b : Nat) (o : Obj) : HP := fun _ h => h b = some (false, o)
theorem St.read_cons {w : World} {A : HP} {L : List HP} (H : St w (A :: L)) : ∃ h, h.fits w ∧ A (ext w) h := by
  obtain ⟨h, f, h1, h2, o, rfl, a, l⟩ := H; exact ⟨h1, Hp.fits_left f, a⟩
theorem St.pt_read {w : World} {b : Nat} {o : Obj} {L : List HP} (H : St w (pt b o :: L)) : w.heap[b]? = some o := by
  obtain ⟨h, f, a⟩ := H.read_cons; exact f b _ _ a
theorem St.ro_read {w : World} {b : Nat} {o : Obj} {L : List HP} (H : St w (ro b o :: L)) : w.heap[b]? = some o := by
  obtain ⟨h, f, a⟩ := H.read_cons; exact f b _ _ a
theorem St.pt_write {w w' : World} {b : Nat} {o o' : Obj} {L : List HP} (H : St w (pt b o :: L)) (hb : w'.heap[b]? = some o')
    (hk : ∀ k, k ≠ b → w'.heap[k]? = w.heap[k]?) (he : ext w' = ext w := by rfl) : St w' (pt b o' :: L) := by
  obtain ⟨h, f, h1, h2, ok, rfl, a, l⟩ := H
  rw [← he] at l
  have a' : h1 b = some (true, o) := a
  have none2 : h2 b = none := by
    cases e : h2 b with
    | none => rfl
    | some x => obtain ⟨q, o2⟩ := x; exact absurd (ok b _ _ _ _ a' e).1 (by simp)
  refine ⟨Hp.add (fun k => if k = b then some (true, o') else h1 k) h2, ?_, _, h2, ?_, rfl, by simp [pt], l⟩
  · refine Hp.fits_add ?_ ?_
    · intro k p ob e
      by_cases hkb : k = b
      · subst hkb; simp at e; rw [hb]; rw [e.2]
      · simp [hkb] at e; rw [hk k hkb]; exact Hp.fits_left f k p ob e
    · intro k p ob e
      have hkb : k ≠ b := fun h => by subst h; rw [none2] at e; simp at e
      rw [hk k hkb]; exact Hp.fits_right ok f k p ob e
  · intro k p ob q o2 e1 e2
    have hkb : k ≠ b := fun h => by subst h; rw [none2] at e2; simp at e2
    simp [hkb] at e1
    exact ok k p ob q o2 e1 e2
theorem St.pt_new {w w' : World} {o : Obj} {L : List HP} (H : St w L) (hh : w'.heap = w.heap.push o) (he : ext w' = ext w := by rfl) : St w' (pt w.heap.size o :: L) := by
  obtain ⟨h, f, l⟩ := H
  rw [← he] at l
  have noneh : h w.heap.size = none := by
    cases e : h w.heap.size with
    | none => rfl
    | some x => obtain ⟨q, o2⟩ := x; have := f _ _ _ e; simp at this
  refine ⟨Hp.add (fun k => if k = w.heap.size then some (true, o) else none) h, ?_, _, h, ?_, rfl, by simp [pt], l⟩
  · refine Hp.fits_add ?_ ?_
    · intro k p ob e
      by_cases hk : k = w.heap.size
      · subst hk; simp at e; rw [hh]; simp [e.2]
      · simp [hk] at e
    · intro k p ob e
      have := f k p ob e
      have hlt : k < w.heap.size := (Array.getElem?_eq_some_iff.1 this).1
      rw [hh, Array.getElem?_push_lt hlt, ← this, Array.getElem?_eq_getElem hlt]
  · intro k p ob q o2 e1 e2
    by_cases hk : k = w.heap.size
    · subst hk; rw [noneh] at e2; simp at e2
    · simp [hk] at e1
theorem Ent.shed {b : Nat} {o : Obj} {L : List HP} : Ent (pt b o :: L) (ro b o :: L) := fun w F H => by
  obtain ⟨h, f, h1, h2, ok, rfl, a, l⟩ := H
  have a' : h1 b = some (true, o) := a
  have none2 : h2 b = none := by
    cases e : h2 b with
    | none => rfl
    | some x => obtain ⟨q, o2⟩ := x; exact absurd (ok b _ _ _ _ a' e).1 (by simp)
  refine ⟨Hp.add (fun k => if k = b then some (false, o) else h1 k) h2, ?_, _, h2, ?_, rfl, by simp [ro], l⟩
  · refine Hp.fits_add ?_ (Hp.fits_right ok f)
    intro k p ob e
    by_cases hkb : k = b
    · subst hkb; simp at e; rw [← e.2]; exact Hp.fits_left f k _ _ a'
    · simp [hkb] at e; exact Hp.fits_left f k p ob e
  · intro k p ob q o2 e1 e2
    have hkb : k ≠ b := fun h => by subst h; rw [none2] at e2; simp at e2
    simp [hkb] at e1
    exact ok k p ob q o2 e1 e2
end Go.SX
namespace Go.SX
open Go
abbrev Env := Nat → Option Value
def e0 : Env := fun _ => none
def upd (f : Env) (i : Nat) (v : Value) : Env := fun j => bif Nat.beq j i then some v else f j
def updAll : List (Nat × Value) → Env
  | [] => e0
  | (i, v) :: l => upd (updAll l) i v
def slots (f : Env) : List (Nat × Value) → Prop
  | [] => True
  | (i, v) :: l => f i = some v ∧ slots f l
theorem updAll_le {f : Env} : ∀ {l : List (Nat × Value)}, slots f l → ∀ i v, updAll l i = some v → f i = some v
  | [], _, i, v, h => by simp [updAll, e0] at h
  | (i, u) :: l, ⟨h1, h2⟩, j, v, h => by
    simp only [updAll, upd] at h
    cases hb : Nat.beq j i with
    | false => rw [hb] at h; exact updAll_le h2 j v h
    | true => rw [hb] at h; rw [Nat.eq_of_beq_eq_true hb, h1]; exact h
def ev (f : Env) : Operand → Option Value
  | .tmp t => f t
  | .const v => some v
  | .global g => some (.pointer (some ⟨g, 0, none⟩))
  | .func g => some (.func (.func g) #[] #[])
def updo (f : Env) : Option Nat → Value → Env
  | some d, v => upd f d v
  | none, _ => f
structure Sim (n : Nat) (a : Act) (f : Env) : Prop where
  defers : a.defers = []
  size : a.tmps.size = n
  at_ : ∀ i v, f i = some v → a.tmps.getD i undef = v
theorem Sim.eval {n : Nat} {a : Act} {f : Env} (h : Sim n a f) : ∀ {x : Operand} {v : Value}, ev f x = some v → a.eval x = v
  | .tmp t, v, hx => h.at_ t v hx
  | .const u, v, hx => by simpa [ev, Act.eval] using hx
  | .global g, v, hx => by simpa [ev, Act.eval] using hx
  | .func g, v, hx => by simpa [ev, Act.eval] using hx
theorem Sim.weaken {n : Nat} {a : Act} {f g : Env} (h : Sim n a f) (H : ∀ i v, g i = some v → f i = some v) : Sim n a g :=
  ⟨h.defers, h.size, fun i v e => h.at_ i v (H i v e)⟩
theorem Sim.put {n : Nat} {a : Act} {f : Env} (h : Sim n a f) {d : Option Nat} (hd : d.all (fun d => decide (d < n)) = true) (v : Value) : Sim n (a.put d v) (updo f d v) := by
  cases d with
  | none => exact h
  | some d =>
    have hd : d < n := by simpa using hd
    refine ⟨h.defers, by simp [Act.put, h.size], fun i u e => ?_⟩
    have hi := h.at_ i u
    simp only [Act.put, updo, upd] at e ⊢
    cases hb : Nat.beq i d with
    | true =>
      rw [hb] at e
      have : i = d := Nat.eq_of_beq_eq_true hb
      subst this
      simp at e
      simp [Array.getD_eq_getD_getElem?, h.size, hd, e]
    | false =>
      rw [hb] at e
      have hne : ¬ d = i := fun e => by subst e; simp at hb
      have := hi e
      simp only [Array.getD_eq_getD_getElem?, Array.getElem?_setIfInBounds, hne, if_false] at this ⊢
      exact this
abbrev Post := Exit → Env → List HP → Prop
def lift (n : Nat) (F : List HP) (Q : Post) : Exit → Act → World → Prop := fun e a w => ∃ f L, Sim n a f ∧ St w (L ++ F) ∧ Q e f L
def okOps (n : Nat) (l : List Oper) : Bool := l.all fun o => o.dst.all (fun d => decide (d < n))
def okCode (n : Nat) : Code → Bool
  | .region _ ops _ => okOps n ops.toList
  | .seq a b => okCode n a && okCode n b
  | .cond _ a b => okCode n a && okCode n b
  | .block _ c => okCode n c
  | .loop c => okCode n c
  | .scope c => okCode n c
  | _ => true
variable (P : Program) (n : Nat)
def swp (c : Code) (Q : Post) (f : Env) (L : List HP) : Prop :=
  okCode n c = true → ∀ F a w, Sim n a f → St w (L ++ F) → c.wp P (lift n F Q) a w
def opsS (ops : List Oper) (rest : List Oper) (Q : Post) (f : Env) (L : List HP) : Prop :=
  okOps n rest = true → ∀ F a w, Sim n a f → St w (L ++ F) → wpList P ops.toArray (lift n F Q) rest a w
def CallsS (g : FuncId) (args : List Value) (L : List HP) (R : Value → List HP → Prop) : Prop :=
  ∀ F w, St w (L ++ F) → Calls P g args.toArray w fun e w' => ∃ v L', e = .returned v ∧ St w' (L' ++ F) ∧ R v L'
variable {P n}
def thenS (K : Env → List HP → Prop) (Q : Post) : Post
  | .normal, f, L => K f L
  | e, f, L => Q e f L
def blockS (id : Nat) (Q : Post) : Post
  | .exit j, f, L => bif Nat.beq j id then Q .normal f L else Q (.exit j) f L
  | e, f, L => Q e f L
section codes
variable {Q : Post} {f : Env} {L : List HP}
theorem swp_mono {c : Code} {Q' : Post} (h : swp P n c Q f L) (hq : ∀ e f L, Q e f L → Q' e f L) : swp P n c Q' f L :=
  fun ok F a w s t => wp_mono (h ok F a w s t) fun _ _ _ ⟨f, L, s, t, q⟩ => ⟨f, L, s, t, hq _ _ _ q⟩
theorem swp_ent {c : Code} {L' : List HP} (h : Ent L L') (H : swp P n c Q f L') : swp P n c Q f L :=
  fun ok F a w s t => H ok F a w s (h w F t)
theorem opsS_ent {ops : List Oper} {rest : List Oper} {L' : List HP} (h : Ent L L') (H : opsS P n ops rest Q f L') : opsS P n ops rest Q f L :=
  fun ok F a w s t => H ok F a w s (h w F t)
theorem swp_ex {α : Sort _} {c : Code} {X : α → HP} (H : ∀ x, swp P n c Q f (X x :: L)) : swp P n c Q f (exH X :: L) :=
  fun ok F a w s t => let ⟨x, t⟩ := St.open_ex t; H x ok F a w s t
theorem swp_pure {c : Code} {φ : Prop} (H : φ → swp P n c Q f L) : swp P n c Q f (pureH φ :: L) :=
  fun ok F a w s t => let ⟨x, t⟩ := St.open_pure t; H x ok F a w s t
theorem opsS_ex {α : Sort _} {ops : List Oper} {rest : List Oper} {X : α → HP} (H : ∀ x, opsS P n ops rest Q f (X x :: L)) : opsS P n ops rest Q f (exH X :: L) :=
  fun ok F a w s t => let ⟨x, t⟩ := St.open_ex t; H x ok F a w s t
theorem opsS_pure {ops : List Oper} {rest : List Oper} {φ : Prop} (H : φ → opsS P n ops rest Q f L) : opsS P n ops rest Q f (pureH φ :: L) :=
  fun ok F a w s t => let ⟨x, t⟩ := St.open_pure t; H x ok F a w s t
theorem swp_skip (h : Q .normal f L) : swp P n .skip Q f L := fun _ _ _ _ s t => wp_skip ⟨f, L, s, t, h⟩
theorem swp_ret (h : Q .ret f L) : swp P n .ret Q f L := fun _ _ _ _ s t => wp_ret ⟨f, L, s, t, h⟩
theorem swp_exit {id : Nat} (h : Q (.exit id) f L) : swp P n (.exit id) Q f L := fun _ _ _ _ s t => wp_exit ⟨f, L, s, t, h⟩
theorem swp_seq {x y : Code} (h : swp P n x (thenS (fun f L => swp P n y Q f L) Q) f L) : swp P n (.seq x y) Q f L := by
  intro ok F a w s t
  simp only [okCode, Bool.and_eq_true] at ok
  refine wp_seq (wp_mono (h ok.1 F a w s t) ?_)
  rintro e a w ⟨f, L, s, t, q⟩
  cases e <;> first | exact q ok.2 F _ _ s t | exact ⟨f, L, s, t, q⟩
theorem swp_block {id : Nat} {c : Code} (h : swp P n c (blockS id Q) f L) : swp P n (.block id c) Q f L := by
  intro ok F a w s t
  refine wp_block (wp_mono (h ok F a w s t) ?_)
  rintro e a w ⟨f, L, s, t, q⟩
  cases e with
  | exit j =>
    simp only [Exit.inBlock]
    by_cases h : j = id
    · subst h; simp only [blockS] at q; rw [if_pos rfl]
      exact ⟨f, L, s, t, by simpa using q⟩
    · rw [if_neg h]
      have : Nat.beq j id = false := by cases hb : Nat.beq j id with | false => rfl | true => exact absurd (Nat.eq_of_beq_eq_true hb) h
      simp only [blockS, this, cond_false] at q
      exact ⟨f, L, s, t, q⟩
  | _ => exact ⟨f, L, s, t, q⟩
theorem swp_cond_true {c : Operand} {x y : Code} (hc : ev f c = some (.bool true)) (h : swp P n x Q f L) : swp P n (.cond c x y) Q f L := by
  intro ok F a w s t
  simp only [okCode, Bool.and_eq_true] at ok
  exact wp_cond_true (s.eval hc) (h ok.1 F a w s t)
theorem swp_cond_false {c : Operand} {x y : Code} (hc : ev f c = some (.bool false)) (h : swp P n y Q f L) : swp P n (.cond c x y) Q f L := by
  intro ok F a w s t
  simp only [okCode, Bool.and_eq_true] at ok
  exact wp_cond_false (s.eval hc) (h ok.2 F a w s t)
theorem swp_cond_t {c : Operand} {x y : Code} {b : Bool} (hc : ev f c = some (.bool b)) (hb : b = true) (h : swp P n x Q f L) : swp P n (.cond c x y) Q f L :=
  swp_cond_true (hc.trans (by rw [hb])) h
theorem swp_cond_f {c : Operand} {x y : Code} {b : Bool} (hc : ev f c = some (.bool b)) (hb : b = false) (h : swp P n y Q f L) : swp P n (.cond c x y) Q f L :=
  swp_cond_false (hc.trans (by rw [hb])) h
theorem swp_region {id : Nat} {l : List Oper} (h : opsS P n l l Q f L) : swp P n (.region id l.toArray false) Q f L :=
  fun ok F a w s t => wp_region_lit (h (by simpa [okCode] using ok) F a w s t)
theorem opsS_nil {ops : List Oper} (h : Q .normal f L) : opsS P n ops [] Q f L := fun _ _ _ _ s t => wpList_nil ⟨f, L, s, t, h⟩
theorem swp_loop {σ : Type} {c : Code} (sl : σ → List (Nat × Value)) (H : σ → List HP) (φ : σ → Prop) (μ : σ → Nat) (s0 : σ)
    (h0 : slots f (sl s0)) (hH : Ent L (H s0)) (hφ : φ s0)
    (round : ∀ s, φ s → swp P n c (thenS (fun f L => ∃ s', slots f (sl s') ∧ Ent L (H s') ∧ φ s' ∧ μ s' < μ s) Q) (updAll (sl s)) (H s)) :
    swp P n (.loop c) Q f L := by
  intro ok F a w s t b kk cs
  have key : ∀ k s a w, μ s = k → φ s → (∃ f, Sim n a f ∧ slots f (sl s)) → St w (H s ++ F) →
      ∃ e a' w', lift n F Q e a' w' ∧ Arrives P (lone (b.at a (.code c :: .inLoop c :: kk)) cs w) b kk cs e a' w' := by
    intro k
    induction k using Nat.strongRecOn with
    | _ k ih =>
      intro s a w hk hp ⟨f, hs, hsl⟩ ht
      have hr := round s hp ok F a w (hs.weaken (updAll_le hsl)) ht
      obtain ⟨e, a₁, w₁, ⟨f1, L1, s1, t1, q⟩, harr⟩ := hr b (.inLoop c :: kk) cs
      cases e with
      | normal =>
        obtain ⟨s', hsl', hent, hp', hlt⟩ := q
        obtain ⟨e₂, a₂, w₂, hq₂, harr₂⟩ := ih (μ s') (hk ▸ hlt) s' a₁ w₁ rfl hp' ⟨f1, s1, hsl'⟩ (hent _ _ t1)
        exact ⟨e₂, a₂, w₂, hq₂, .of_steps (Steps.trans harr (.one step_inLoop)) harr₂⟩
      | exit id => exact ⟨_, a₁, w₁, ⟨f1, L1, s1, t1, q⟩, .pass (x := .inLoop c) rfl (fun _ _ => .inl (by simp)) harr⟩
      | goto l => exact ⟨_, a₁, w₁, ⟨f1, L1, s1, t1, q⟩, .pass (x := .inLoop c) rfl (fun _ _ => .inl (by simp)) harr⟩
      | ret => exact ⟨_, a₁, w₁, ⟨f1, L1, s1, t1, q⟩, .pass (x := .inLoop c) rfl (fun _ _ => .inl (by simp)) harr⟩
      | panic ch => exact ⟨_, a₁, w₁, ⟨f1, L1, s1, t1, q⟩, .pass (x := .inLoop c) rfl (fun _ _ => .inl (by simp)) harr⟩
      | outgrown => exact ⟨_, a₁, w₁, ⟨f1, L1, s1, t1, q⟩, .pass (x := .inLoop c) rfl (fun _ _ => .inl (by simp)) harr⟩
  obtain ⟨e, a', w', hq, harr⟩ := key _ s0 a w rfl hφ ⟨f, s, h0⟩ (hH _ _ t)
  exact ⟨e, a', w', hq, .of_steps (.one step_loop) harr⟩
theorem swp_keep {c : Code} (l : List (Nat × Value)) (h : slots f l) (H : swp P n c Q (updAll l) L) : swp P n c Q f L :=
  fun ok F a w s t => H ok F a w (s.weaken (updAll_le h)) t
end codes
end Go.SX
namespace Go.SX
open Go
class Ty (P : Program) (t : TypeId) (agg : outParam Bool) (size : outParam Nat) (zero : outParam (List Value)) (bytes : outParam Nat) : Prop where
  raw : ∃ (i : TypeInfo) (z : Value), P.info? t = some i ∧ i.size = size ∧ i.bytes = bytes ∧ i.zero = some z ∧ z.cells.toList = zero
  agg : ∀ w, (isAgg t).run P w = .ok agg w
  size : ∀ w, (sizeOf t).run P w = .ok size w
  zero : ∃ z, (∀ w, (zeroValue t).run P w = .ok z w) ∧ z.cells.toList = zero
  info : ∃ i, (∀ w, (typeInfo t).run P w = .ok i w) ∧ i.bytes = bytes
class SlTy (P : Program) (t : TypeId) (e : outParam TypeId) : Prop where
  und : ∀ w, (underlying t).run P w = .ok (.slice e) w
  raw : P.underlying t = some (.slice e)
class IntTy (P : Program) (t : TypeId) (k : outParam IntKind) : Prop where
  und : ∀ w, (underlying t).run P w = .ok (.int k) w
  raw : P.underlying t = some (.int k)
class MapTy (P : Program) (t : TypeId) (k e : outParam TypeId) : Prop where
  und : ∀ w, (underlying t).run P w = .ok (.map k e) w
  raw : P.underlying t = some (.map k e)
class PtrTy (P : Program) (t : TypeId) (e : outParam TypeId) : Prop where
  und : ∀ w, (underlying t).run P w = .ok (.pointer e) w
  raw : P.underlying t = some (.pointer e)
class StrTy (P : Program) (t : TypeId) : Prop where
  und : ∀ w, (underlying t).run P w = .ok .string w
  raw : P.underlying t = some (.string)
class ArrTy (P : Program) (t : TypeId) (len : outParam Nat) (e : outParam TypeId) : Prop where
  und : ∀ w, (underlying t).run P w = .ok (.array len e) w
  raw : P.underlying t = some (.array len e)
class HasUnd (P : Program) (t : TypeId) : Prop where
  und : ∃ d, ∀ w, (underlying t).run P w = .ok d w
class StTy (P : Program) (t : TypeId) (fs : outParam (List (Nat × Nat × Bool))) : Prop where
  und : ∃ fields : Array Field, (∀ w, (underlying t).run P w = .ok (.struct fields) w) ∧ fields.size = fs.length ∧
    ∀ (i off sz : Nat) (ag : Bool), (show List (Nat × Nat × Bool) from fs)[i]? = some (off, sz, ag) → ∃ f : Field, fields[i]? = some f ∧ f.offset = off ∧ (∀ w, (sizeOf f.type).run P w = .ok sz w) ∧ (∀ w, (isAgg f.type).run P w = .ok ag w)
class Enters (P : Program) (f : FuncId) : Prop where
  run : ∀ args w, (callFunc f args).run P w = .ok (.enter f args) w
def cl (l : List Value) (t : TypeId) : Obj := .cells l.toArray t (0, 0)
class FindB (b : Nat) (L : List HP) (o : outParam Obj) : Prop where
  at_ : ∀ w F, St w (L ++ F) → w.heap[b]? = some o
instance FindB.here {b : Nat} {o : Obj} {L : List HP} : FindB b (pt b o :: L) o := ⟨fun _ _ H => St.pt_read H⟩
instance FindB.hereR {b : Nat} {o : Obj} {L : List HP} : FindB b (ro b o :: L) o := ⟨fun _ _ H => St.ro_read H⟩
instance (priority := low) FindB.there {b : Nat} {o : Obj} {A : HP} {L : List HP} [h : FindB b L o] : FindB b (A :: L) o := ⟨fun _ _ H => h.at_ _ _ H.tail⟩
class UpdB (b : Nat) (L : List HP) (o : outParam Obj) (L' : outParam (Obj → List HP)) : Prop where
  at_ : ∃ R, L.Perm (pt b o :: R) ∧ ∀ x, (pt b x :: R).Perm (L' x)
instance UpdB.here {b : Nat} {o : Obj} {L : List HP} : UpdB b (pt b o :: L) o (fun x => pt b x :: L) := ⟨L, .refl _, fun _ => .refl _⟩
instance (priority := low) UpdB.there {b : Nat} {o : Obj} {A : HP} {L : List HP} {L' : Obj → List HP} [h : UpdB b L o L'] : UpdB b (A :: L) o (fun x => A :: L' x) := by
  obtain ⟨R, h1, h2⟩ := h.at_
  refine ⟨A :: R, ?_, fun x => ?_⟩
  · exact (h1.cons A).trans (.swap _ _ _)
  · exact List.Perm.trans (.swap _ _ _) ((h2 x).cons A)
class Sub (L0 L : List HP) : Prop where
  ent : Ent L L0
instance Sub.refl {L : List HP} : Sub L L := ⟨Ent.refl L⟩
instance (priority := low) Sub.there {L0 L : List HP} {A : HP} [h : Sub L0 L] : Sub L0 (A :: L) := ⟨h.ent.drop⟩
def RdC (L : List HP) (b off : Nat) (cs : List Value) : Prop :=
  ∀ w F, St w (L ++ F) → ∀ j v, cs[j]? = some v → w.cell? ⟨b, off + j, none⟩ = some v
theorem RdC.sub {L0 L : List HP} {b off : Nat} {cs : List Value} (h : RdC L0 b off cs) [s : Sub L0 L] : RdC L b off cs :=
  fun w F H => h w F (s.ent _ _ H)
theorem RdC.ent {L0 L : List HP} {b off : Nat} {cs : List Value} (h : RdC L0 b off cs) (s : Ent L L0) : RdC L b off cs :=
  fun w F H => h w F (s _ _ H)
theorem RdC.find {L : List HP} {b : Nat} {l : List Value} {t : TypeId} {fz : Nat × Nat} [h : FindB b L (.cells l.toArray t fz)] {off : Nat} {cs : List Value} (hl : ∀ j v, cs[j]? = some v → l[off + j]? = some v) : RdC L b off cs :=
  fun w F H j v e => by
    have := h.at_ w F H
    simp [World.cell?, this, hl j v e]
theorem RdC.row {L : List HP} {b : Nat} {l : List Value} {t : TypeId} [h : FindB b L (cl l t)] : RdC L b 0 l :=
  RdC.find (h := h) fun j v e => by simpa using e
theorem RdC.part {L : List HP} {b off k : Nat} {cs ds : List Value} (h : RdC L b off cs) (hd : ∀ j v, ds[j]? = some v → cs[k + j]? = some v) : RdC L b (off + k) ds :=
  fun w F H j v e => by have := h w F H (k + j) v (hd j v e); rwa [← Nat.add_assoc] at this
section
variable {P : Program} {n : Nat} {ops rest : List Oper} {Q : Post} {f : Env} {L : List HP}
def StepV (P : Program) (n : Nat) (o : Oper) (f : Env) (L : List HP) (R : Value → List HP → Prop) : Prop :=
  ∀ F a w, Sim n a f → St w (L ++ F) → ∃ v w' L', (execOp a.eval o).run P w = .ok (.value v) w' ∧ St w' (L' ++ F) ∧ R v L'
theorem opsS_value {d : Option Tmp} {op : Op} {ty : TypeId} {pos : String} {af : Array Edge} {R : Value → List HP → Prop}
    (h : StepV P n ⟨d, op, ty, pos, af, none⟩ f L R) (hk : ∀ v L', R v L' → opsS P n ops rest Q (updo f d v) L') :
    opsS P n ops (⟨d, op, ty, pos, af, none⟩ :: rest) Q f L := by
  intro ok F a w s t
  simp only [okOps, List.all_cons, Bool.and_eq_true] at ok
  obtain ⟨v, w', L', hr, t', r⟩ := h F a w s t
  refine wpList_plain rfl fun K hK => ?_
  simp only [Oper.wp, hr, Oper.upon]
  exact hK _ _ (hk v L' r ok.2 F _ _ (s.put ok.1 v) t')
theorem opsS_pure1 {d : Option Tmp} {op : Op} {ty : TypeId} {pos : String} {af : Array Edge} {v : Value}
    (h : ∀ a w, Sim n a f → (execOp a.eval ⟨d, op, ty, pos, af, none⟩).run P w = .ok (.value v) w) (hk : opsS P n ops rest Q (updo f d v) L) :
    opsS P n ops (⟨d, op, ty, pos, af, none⟩ :: rest) Q f L :=
  opsS_value (R := fun u L' => u = v ∧ L' = L) (fun F a w s t => ⟨v, w, L, h a w s, t, rfl, rfl⟩) (by rintro _ _ ⟨rfl, rfl⟩; exact hk)
theorem opsS_skip1 {d : Option Tmp} {op : Op} {ty : TypeId} {pos : String} {af : Array Edge} {L' : List HP}
    (h : ∀ F a w, Sim n a f → St w (L ++ F) → ∃ w', (execOp a.eval ⟨d, op, ty, pos, af, none⟩).run P w = .ok .skip w' ∧ St w' (L' ++ F)) (hk : opsS P n ops rest Q (updo f d undef) L') :
    opsS P n ops (⟨d, op, ty, pos, af, none⟩ :: rest) Q f L := by
  intro ok F a w s t
  simp only [okOps, List.all_cons, Bool.and_eq_true] at ok
  obtain ⟨w', hr, t'⟩ := h F a w s t
  refine wpList_plain rfl fun K hK => ?_
  simp only [Oper.wp, hr, Oper.upon]
  exact hK _ _ (hk ok.2 F _ _ (s.put ok.1 undef) t')
def wantS (ops : List Oper) (f : Env) (g : Nat × Bool) : Option Bool :=
  match (ops[g.1]?).bind (·.dst) with
  | some d => match f d with
    | some (.bool b) => some (b == g.2)
    | _ => none
  | none => none
theorem wanted_of {a : Act} {g : Nat × Bool} {b : Bool} (s : Sim n a f) (h : wantS ops f g = some b) (o : Oper) (ho : o.guard = some g) :
    Region.wanted o (yielded ops.toArray a.tmps) = b := by
  simp only [wantS] at h
  cases hd : (ops[g.1]?).bind (·.dst) with
  | none => rw [hd] at h; simp at h
  | some d =>
    rw [hd] at h
    simp only at h
    cases hf : f d with
    | none => rw [hf] at h; simp at h
    | some v =>
      rw [hf] at h
      cases v <;> simp at h
      rename_i c
      have := s.at_ d _ hf
      have hh : a.tmps[d]? = some (.bool c) := by
        rw [Array.getD_eq_getD_getElem?] at this
        cases h2 : a.tmps[d]? with
        | none => rw [h2] at this; simp [undef] at this
        | some u => rw [h2] at this; simp at this; rw [this]
      have hy : yielded ops.toArray a.tmps g.1 = some c := by
        simp [yielded, hd, hh]
      simp only [Region.wanted, ho]
      rw [hy, ← h]
      cases c <;> cases g.2 <;> rfl
theorem S.guard {d : Option Tmp} {op : Op} {ty : TypeId} {pos : String} {af : Array Edge} {g : Nat × Bool} (hg : wantS ops f g = some true)
    (h : opsS P n ops (⟨d, op, ty, pos, af, none⟩ :: rest) Q f L) : opsS P n ops (⟨d, op, ty, pos, af, some g⟩ :: rest) Q f L := by
  intro ok F a w s t
  have hw := wanted_of s hg ⟨d, op, ty, pos, af, some g⟩ rfl
  have := h (by simpa [okOps] using ok) F a w s t
  have h2 : Region.wanted (⟨d, op, ty, pos, af, none⟩ : Oper) (yielded ops.toArray a.tmps) = true := rfl
  simp only [wpList, hw, h2, if_true] at this ⊢
  exact this
theorem S.gskip {d : Option Tmp} {op : Op} {ty : TypeId} {pos : String} {af : Array Edge} {g : Nat × Bool} (hg : wantS ops f g = some false)
    (h : opsS P n ops rest Q (updo f d undef) L) : opsS P n ops (⟨d, op, ty, pos, af, some g⟩ :: rest) Q f L := by
  intro ok F a w s t
  have hw := wanted_of s hg ⟨d, op, ty, pos, af, some g⟩ rfl
  simp only [okOps, List.all_cons, Bool.and_eq_true] at ok
  have := h ok.2 F _ w (s.put ok.1 undef) t
  simp only [wpList, hw, Bool.false_eq_true, if_false]
  exact this
theorem S.gskip1 {d : Tmp} {op : Op} {ty : TypeId} {pos : String} {af : Array Edge} {g : Nat × Bool} (hg : wantS ops f g = some false)
    (h : opsS P n ops rest Q (upd f d undef) L) : opsS P n ops (⟨some d, op, ty, pos, af, some g⟩ :: rest) Q f L := S.gskip hg h
theorem S.split (d : Nat) {b : Bool} (hd : f d = some (.bool b)) (ht : b = true → opsS P n ops rest Q (upd f d (.bool true)) L) (hf : b = false → opsS P n ops rest Q (upd f d (.bool false)) L) :
    opsS P n ops rest Q f L := by
  have key : ∀ c, b = c → opsS P n ops rest Q (upd f d (.bool c)) L → opsS P n ops rest Q f L := fun c e h ok F a w s t =>
    h ok F a w (s.weaken fun i v hv => by
      simp only [upd] at hv
      cases hb : Nat.beq i d with
      | false => rw [hb] at hv; exact hv
      | true => rw [hb] at hv; rw [Nat.eq_of_beq_eq_true hb, hd, e]; exact hv) t
  cases b
  · exact key false rfl (hf rfl)
  · exact key true rfl (ht rfl)
theorem S.gsp {d : Option Tmp} {op : Op} {ty : TypeId} {pos : String} {af : Array Edge} {g : Nat × Bool} {dg : Nat} {b : Bool} (h0 : (ops[g.1]?).bind (·.dst) = some dg) (hd : f dg = some (.bool b))
    (ht : b = true → opsS P n ops (⟨d, op, ty, pos, af, some g⟩ :: rest) Q (upd f dg (.bool true)) L) (hf : b = false → opsS P n ops (⟨d, op, ty, pos, af, some g⟩ :: rest) Q (upd f dg (.bool false)) L) :
    opsS P n ops (⟨d, op, ty, pos, af, some g⟩ :: rest) Q f L := S.split dg hd ht hf
theorem S.gT {d : Option Tmp} {op : Op} {ty : TypeId} {pos : String} {af : Array Edge} {g : Nat × Bool} {dg : Nat} {b : Bool} (h0 : (ops[g.1]?).bind (·.dst) = some dg) (hd : f dg = some (.bool b)) (hb : b = true)
    (ht : opsS P n ops (⟨d, op, ty, pos, af, some g⟩ :: rest) Q (upd f dg (.bool true)) L) : opsS P n ops (⟨d, op, ty, pos, af, some g⟩ :: rest) Q f L := S.gsp h0 hd (fun _ => ht) (fun h => by rw [hb] at h; cases h)
theorem S.gF {d : Option Tmp} {op : Op} {ty : TypeId} {pos : String} {af : Array Edge} {g : Nat × Bool} {dg : Nat} {b : Bool} (h0 : (ops[g.1]?).bind (·.dst) = some dg) (hd : f dg = some (.bool b)) (hb : b = false)
    (hf : opsS P n ops (⟨d, op, ty, pos, af, some g⟩ :: rest) Q (upd f dg (.bool false)) L) : opsS P n ops (⟨d, op, ty, pos, af, some g⟩ :: rest) Q f L := S.gsp h0 hd (fun h => by rw [hb] at h; cases h) (fun _ => hf)
end
end Go.SX
namespace Go.SX
open Go
section
variable {P : Program} {n : Nat} {ops rest : List Oper} {Q : Post} {f : Env} {L : List HP}
variable {d : Tmp} {ty : TypeId} {pos : String} {af : Array Edge}
theorem S.lss {x y : Operand} {t t' : TypeId} {k : IntKind} {a b : Int} (hx : ev f x = some (.int k a)) (hy : ev f y = some (.int k b)) (hk : opsS P n ops rest Q (upd f d (.bool (decide (a < b)))) L) : opsS P n ops (⟨some d, .binOp .lss t x y t', ty, pos, af, none⟩ :: rest) Q f L :=
  opsS_pure1 (fun _ w s => by simp [execOp, s.eval hx, s.eval hy, eqGuard, binOp, Op.intCmp]) hk
theorem S.leq {x y : Operand} {t t' : TypeId} {k : IntKind} {a b : Int} (hx : ev f x = some (.int k a)) (hy : ev f y = some (.int k b)) (hk : opsS P n ops rest Q (upd f d (.bool (decide (a ≤ b)))) L) : opsS P n ops (⟨some d, .binOp .leq t x y t', ty, pos, af, none⟩ :: rest) Q f L :=
  opsS_pure1 (fun _ w s => by simp [execOp, s.eval hx, s.eval hy, eqGuard, binOp, Op.intCmp]) hk
theorem S.gtr {x y : Operand} {t t' : TypeId} {k : IntKind} {a b : Int} (hx : ev f x = some (.int k a)) (hy : ev f y = some (.int k b)) (hk : opsS P n ops rest Q (upd f d (.bool (decide (b < a)))) L) : opsS P n ops (⟨some d, .binOp .gtr t x y t', ty, pos, af, none⟩ :: rest) Q f L :=
  opsS_pure1 (fun _ w s => by simp [execOp, s.eval hx, s.eval hy, eqGuard, binOp, Op.intCmp]) hk
theorem S.geq {x y : Operand} {t t' : TypeId} {k : IntKind} {a b : Int} (hx : ev f x = some (.int k a)) (hy : ev f y = some (.int k b)) (hk : opsS P n ops rest Q (upd f d (.bool (decide (b ≤ a)))) L) : opsS P n ops (⟨some d, .binOp .geq t x y t', ty, pos, af, none⟩ :: rest) Q f L :=
  opsS_pure1 (fun _ w s => by simp [execOp, s.eval hx, s.eval hy, eqGuard, binOp, Op.intCmp]) hk
theorem S.add {x y : Operand} {t t' : TypeId} {k : IntKind} {a b : Int} (hx : ev f x = some (.int k a)) (hy : ev f y = some (.int k b)) (hk : opsS P n ops rest Q (upd f d (.int k (k.wrap (a + b)))) L) : opsS P n ops (⟨some d, .binOp .add t x y t', ty, pos, af, none⟩ :: rest) Q f L :=
  opsS_pure1 (fun _ w s => by simp [execOp, s.eval hx, s.eval hy, eqGuard, binOp, Op.intArith]) hk
theorem S.sub {x y : Operand} {t t' : TypeId} {k : IntKind} {a b : Int} (hx : ev f x = some (.int k a)) (hy : ev f y = some (.int k b)) (hk : opsS P n ops rest Q (upd f d (.int k (k.wrap (a - b)))) L) : opsS P n ops (⟨some d, .binOp .sub t x y t', ty, pos, af, none⟩ :: rest) Q f L :=
  opsS_pure1 (fun _ w s => by simp [execOp, s.eval hx, s.eval hy, eqGuard, binOp, Op.intArith]) hk
theorem wrap_i64 {a : Int} (h1 : -9223372036854775808 ≤ a) (h2 : a ≤ 9223372036854775807) : IntKind.i64.wrap a = a := IntWalk.i64_in a ⟨h1, h2⟩
theorem wrap_u64 {a : Int} (h1 : 0 ≤ a) (h2 : a ≤ 18446744073709551615) : IntKind.u64.wrap a = a := IntWalk.u64_in a ⟨h1, h2⟩
theorem S.not {x : Operand} {t : TypeId} {b : Bool} (hx : ev f x = some (.bool b)) (hk : opsS P n ops rest Q (upd f d (.bool (!b))) L) : opsS P n ops (⟨some d, .unOp .not t x, ty, pos, af, none⟩ :: rest) Q f L :=
  opsS_pure1 (fun _ w s => by simp [execOp, s.eval hx, Op.unary]) hk
theorem run_eqIn_ptr {t e : TypeId} (m : Nat) {a : Option Addr} (h : ∀ w, (underlying t).run P w = .ok (.pointer e) w) (w : World) : (Op.equalIn (m + 1) t (.pointer a) (.pointer none)).run P w = .ok a.isNone w := by
  cases a <;> simp [Op.equalIn, h]
theorem run_eqIn_sl {t e : TypeId} (m : Nat) {a : Option Addr} {x y x' y' : Nat} (h : ∀ w, (underlying t).run P w = .ok (.slice e) w) (w : World) : (Op.equalIn (m + 1) t (.slice a x y) (.slice none x' y')).run P w = .ok a.isNone w := by
  cases a <;> simp [Op.equalIn, h]
class BoolTy (P : Program) (t : TypeId) : Prop where
  und : P.underlying t = some .bool
def str (l : List UInt8) : Value := .string ⟨l.toArray⟩
theorem S.ia {x y : Operand} {t e : TypeId} {b o m c sz bts : Nat} {ag : Bool} {zs : List Value} {k : IntKind} {i : Int} [h : SlTy P t e] [h2 : Ty P e ag sz zs bts] (hx : ev f x = some (.slice (some ⟨b, o, none⟩) m c)) (hy : ev f y = some (.int k i))
    (h0 : 0 ≤ i) (h1 : i < m) (hk : opsS P n ops rest Q (upd f d (.pointer (some ⟨b, o + i.toNat * sz, none⟩))) L) : opsS P n ops (⟨some d, .indexAddr t x y, ty, pos, af, none⟩ :: rest) Q f L := by
  refine opsS_pure1 (v := .pointer (some ⟨b, o + i.toNat * sz, none⟩)) (fun _ w s => ?_) hk
  have : (⟨b, o, none⟩ : Addr).add (i.toNat * sz) = ⟨b, o + i.toNat * sz, none⟩ := by unfold Addr.add; split <;> simp_all
  simp [execOp, s.eval hx, s.eval hy, Instr.indexAt, asIntOf, h.und, h2.size, h0, h1, this]
theorem run_loadVar1 {t : TypeId} {sz bts : Nat} {zs : List Value} [h : Ty P t false sz zs bts] {b o : Nat} {v : Value} {w : World} (hc : w.cell? ⟨b, o, none⟩ = some v) : (Instr.loadAt t (.pointer (some ⟨b, o, none⟩))).run P w = .ok v w := by
  simp [Instr.loadAt, Instr.sureAddr, loadVar, h.agg, hc]
theorem run_loadVarN {t : TypeId} {sz bts : Nat} {zs : List Value} [h : Ty P t true sz zs bts] {b o : Nat} {cs : List Value} {w : World} (hn : cs.length = sz) (hc : ∀ j v, cs[j]? = some v → w.cell? ⟨b, o + j, none⟩ = some v) : (Instr.loadAt t (.pointer (some ⟨b, o, none⟩))).run P w = .ok (.agg cs.toArray) w := by
  have := run_loadCells_list (P := P) w ⟨b, o, none⟩ cs (fun j v e => by
    have := hc j v e
    have e2 : (⟨b, o, none⟩ : Addr).add j = ⟨b, o + j, none⟩ := by unfold Addr.add; split <;> simp_all
    rw [e2]; exact this)
  simp [Instr.loadAt, Instr.sureAddr, loadVar, h.agg, h.size, ← hn, this]
end
end Go.SX
namespace Go.SX
open Go
section
variable {P : Program} {n : Nat} {ops rest : List Oper} {Q : Post} {f : Env} {L : List HP}
variable {d : Tmp} {ty : TypeId} {pos : String} {af : Array Edge}
theorem St.new {w : World} {o : Obj} {L : List HP} (H : St w L) : St { w with heap := w.heap.push o } (pt w.heap.size o :: L) := St.pt_new H rfl
theorem S.al {t sz bts : Nat} {ag : Bool} {zs : List Value} [h : Ty P t ag sz zs bts] (hk : ∀ b, opsS P n ops rest Q (upd f d (.pointer (some ⟨b, 0, none⟩))) (pt b (cl zs t) :: L)) :
    opsS P n ops (⟨some d, .alloc t, ty, pos, af, none⟩ :: rest) Q f L := by
  obtain ⟨z, hz, hz2⟩ := h.zero
  refine opsS_value (R := fun v L' => ∃ b, v = .pointer (some ⟨b, 0, none⟩) ∧ L' = pt b (cl zs t) :: L) (fun F a w s t0 => ?_) (by rintro _ _ ⟨b, rfl, rfl⟩; exact hk b)
  refine ⟨_, _, pt w.heap.size (cl zs t) :: L, ?_, St.new t0, _, rfl, rfl⟩
  have : z.cells = zs.toArray := by rw [← hz2]
  simp [execOp, Instr.alloc, hz, newVar, newRow, this, cl]
theorem S.bx {t : TypeId} {x : Operand} {v : Value} {cs : List Value} (hx : ev f x = some v) (hv : v.cells.toList = cs) (hk : ∀ b, opsS P n ops rest Q (upd f d (.pointer (some ⟨b, 0, none⟩))) (pt b (cl cs t) :: L)) :
    opsS P n ops (⟨some d, .box t x, ty, pos, af, none⟩ :: rest) Q f L := by
  refine opsS_value (R := fun v L' => ∃ b, v = .pointer (some ⟨b, 0, none⟩) ∧ L' = pt b (cl cs t) :: L) (fun F a w s t0 => ?_) (by rintro _ _ ⟨b, rfl, rfl⟩; exact hk b)
  refine ⟨_, _, pt w.heap.size (cl cs t) :: L, ?_, St.new t0, _, rfl, rfl⟩
  have : v.cells = cs.toArray := by rw [← hv]
  simp [execOp, s.eval hx, Instr.box, newVar, newRow, this, cl]
theorem setRow_heap_of {w : World} {b : Nat} {t : TypeId} {l l' : List Value} (hw : w.heap[b]? = some (cl l t)) {L F : List HP} {L' : Obj → List HP} [h : UpdB b L (cl l t) L'] (H : St w (L ++ F)) : St (w.setRow b l'.toArray) (L' (cl l' t) ++ F) := by
  obtain ⟨R, h1, h2⟩ := h.at_
  have H1 : St w (pt b (cl l t) :: (R ++ F)) := by simpa using St.perm (h1.append_right F) H
  have H2 := St.pt_write (w' := w.setRow b l'.toArray) (o' := cl l' t) H1 (by
    have := setRow_heap w b l.toArray l'.toArray t (0, 0) hw
    exact this) (fun k hk => by simp [World.setRow, Array.getElem?_modify, Ne.symm hk])
  exact St.perm ((h2 (cl l' t)).append_right F) (by simpa using H2)
theorem UpdB.read {w : World} {b : Nat} {o : Obj} {L F : List HP} {L' : Obj → List HP} (h : UpdB b L o L') (H : St w (L ++ F)) : w.heap[b]? = some o := by
  obtain ⟨R, h1, _⟩ := h.at_
  exact St.pt_read (L := R ++ F) (by simpa using St.perm (h1.append_right F) H)
def putAt (l : List Value) (o : Nat) (cs : List Value) : List Value := l.take o ++ cs ++ l.drop (o + cs.length)
theorem S.st {x y : Operand} {t t0 sz bts : Nat} {ag : Bool} {zs : List Value} {b o : Nat} {v : Value} {l l' cs : List Value} {L' : Obj → List HP} [h : Ty P t ag sz zs bts] [hb : UpdB b L (cl l t0) L']
    (hx : ev f x = some (.pointer (some ⟨b, o, none⟩))) (hy : ev f y = some v) (hv : v.cells.toList = cs) (hn : cs.length = sz) (h1 : cs.all (·.oneCell') = true) (hlb : Nat.ble (o + sz) l.length = true) (hl' : putAt l o cs = l')
    (hk : opsS P n ops rest Q f (L' (cl l' t0))) : opsS P n ops (⟨none, .store t x y, ty, pos, af, none⟩ :: rest) Q f L := by
  have hl : o + sz ≤ l.length := Nat.le_of_ble_eq_true hlb
  refine opsS_skip1 (L' := L' (cl l' t0)) (fun F a w s t1 => ?_) hk
  have hw := hb.read t1
  refine ⟨w.setRow b l'.toArray, ?_, setRow_heap_of hw t1⟩
  have hst := run_storeCells_at P b o t0 cs 0 l.toArray w hw (by simpa [hn] using hl) (fun v hv => by simpa using List.all_eq_true.1 h1 v hv)
  have hvs : v.cells = cs.toArray := by rw [← hv]
  simp only [Nat.add_zero] at hst
  unfold putAt at hl'
  rw [hl'] at hst
  simp [execOp, s.eval hx, s.eval hy, Instr.storeAt, Instr.sureAddr, storeVar, hvs, h.size, hn, hst]
theorem putAt_one {l : List Value} {o : Nat} {v : Value} (h : o < l.length) : putAt l o [v] = l.set o v := by
  unfold putAt
  rw [List.set_eq_take_append_cons_drop, if_pos h]; simp
theorem S.st1 {x y : Operand} {t t0 bts : Nat} {ag : Bool} {zs : List Value} {b o : Nat} {v : Value} {l l' : List Value} {L' : Obj → List HP} [h : Ty P t ag 1 zs bts] [hb : UpdB b L (cl l t0) L']
    (hx : ev f x = some (.pointer (some ⟨b, o, none⟩))) (hy : ev f y = some v) (h1 : v.oneCell' = true) (hl : Nat.ble (o + 1) l.length = true) (hl' : l.set o v = l')
    (hk : opsS P n ops rest Q f (L' (cl l' t0))) : opsS P n ops (⟨none, .store t x y, ty, pos, af, none⟩ :: rest) Q f L :=
  S.st (sz := 1) (cs := [v]) hx hy (by cases v <;> simp_all [Value.cells, Value.oneCell']) rfl (by simpa using h1) hl (by rw [putAt_one (Nat.le_of_ble_eq_true hl)]; exact hl') hk
def fillL (places : List (Nat × Nat × Bool)) (cells : List Value) : List (Nat × List Value) → List Value
  | [] => cells
  | (i, cs) :: r => fillL places (putAt cells ((places[i]?).map (·.1) |>.getD 0) cs) r
theorem foldl_set (v : List Value) (off : Nat) : ∀ (k : Nat) (cs : Array Value), off + k + v.length ≤ cs.size →
    (v.zipIdx k).foldl (fun cs (c, j) => cs.setIfInBounds (off + j) c) cs = (putAt cs.toList (off + k) v).toArray := by
  induction v with
  | nil => intro k cs h; simp [putAt]
  | cons c v ih =>
    intro k cs h
    simp only [List.zipIdx_cons, List.foldl_cons]
    simp only [List.length_cons] at h
    rw [ih (k + 1) _ (by simp; omega)]
    congr 1
    have := Go.list_seg_step cs.toList (off + k) c v (by simp; omega)
    simp only [putAt, Array.toList_setIfInBounds, List.length_cons]
    simpa [Nat.add_assoc] using this
theorem fill_eq {places : List (Nat × Nat × Bool)} {pl : Nat → Option (Nat × Nat)} (hpl : ∀ i off sz ag, places[i]? = some (off, sz, ag) → pl i = some (off, sz)) :
    ∀ (parts : List (Nat × Value)) (cells : List Value), (∀ p ∈ parts, ∃ off sz ag, places[p.1]? = some (off, sz, ag) ∧ p.2.cells.size = sz ∧ off + sz ≤ cells.length) →
      Instr.fill pl cells.toArray parts = some (fillL places cells (parts.map fun p => (p.1, p.2.cells.toList))).toArray
  | [], cells, _ => rfl
  | (i, v) :: r, cells, h => by
    obtain ⟨off, sz, ag, h1, h2, h3⟩ := h (i, v) (by simp)
    simp only at h1 h2
    have e1 := hpl i off sz ag h1
    have e2 : (decide (v.cells.size ≠ sz) || decide (off + v.cells.size > cells.toArray.size)) = false := by simp [h2]; omega
    have hpa : (putAt cells off v.cells.toList).length = cells.length := by simp [putAt, h2]; omega
    have hz : v.cells.zipIdx.foldl (fun cs (c, j) => cs.setIfInBounds (off + j) c) cells.toArray = (putAt cells off v.cells.toList).toArray := by
      have := foldl_set v.cells.toList off 0 cells.toArray (by simp [h2]; omega)
      rw [← Array.foldl_toList]
      simpa using this
    have ih := fill_eq hpl r (putAt cells off v.cells.toList) (fun p hp => by
      obtain ⟨a, b, c, d, e, g⟩ := h p (by simp [hp]); exact ⟨a, b, c, d, e, by rw [hpa]; exact g⟩)
    simp only [Instr.fill, e1, e2, if_false, Bool.false_eq_true, hz, ih, List.map_cons, fillL, h1, Option.map_some, Option.getD_some]
def partsL (f : Env) : List (Nat × Operand) → Option (List (Nat × Value))
  | [] => some []
  | (i, x) :: r => match ev f x, partsL f r with
    | some v, some l => some ((i, v) :: l)
    | _, _ => none
theorem partsL_eq {a : Act} (s : Sim n a f) : ∀ {parts : List (Nat × Operand)} {l : List (Nat × Value)}, partsL f parts = some l → parts.map (fun p => (p.1, a.eval p.2)) = l
  | [], l, h => by simp [partsL] at h; simp [h]
  | (i, x) :: r, l, h => by
    simp only [partsL] at h
    cases hx : ev f x with
    | none => rw [hx] at h; simp at h
    | some v =>
      rw [hx] at h
      cases hr : partsL f r with
      | none => rw [hr] at h; simp at h
      | some l' =>
        rw [hr] at h
        simp only [Option.some.injEq] at h
        simp [s.eval hx, partsL_eq s hr, ← h]
def fitsL (places : List (Nat × Nat × Bool)) (m : Nat) (parts : List (Nat × List Value)) : Bool :=
  parts.all fun p => match places[p.1]? with
    | some (off, sz, _) => Nat.beq p.2.length sz && Nat.ble (off + sz) m
    | none => false
def cellsOf (l : List (Nat × Value)) : List (Nat × List Value) := l.map fun p => (p.1, p.2.cells.toList)
theorem fitsL_of {places : List (Nat × Nat × Bool)} {m : Nat} {l : List (Nat × Value)} (h : fitsL places m (cellsOf l) = true) : ∀ p ∈ l, ∃ off sz ag, places[p.1]? = some (off, sz, ag) ∧ p.2.cells.size = sz ∧ off + sz ≤ m := by
  intro p hp
  have := List.all_eq_true.1 h (p.1, p.2.cells.toList) (List.mem_map.2 ⟨p, hp, rfl⟩)
  simp only at this
  cases hq : places[p.1]? with
  | none => rw [hq] at this; simp at this
  | some q =>
    obtain ⟨off, sz, ag⟩ := q
    rw [hq] at this
    simp only [Bool.and_eq_true] at this
    exact ⟨off, sz, ag, rfl, by simpa using Nat.eq_of_beq_eq_true this.1, Nat.le_of_ble_eq_true this.2⟩
theorem run_places {fields : Array Field} {fs : List (Nat × Nat × Bool)} (hs : fields.size = fs.length)
    (h : ∀ (i off sz : Nat) (ag : Bool), fs[i]? = some (off, sz, ag) → ∃ f : Field, fields[i]? = some f ∧ f.offset = off ∧ (∀ w, (sizeOf f.type).run P w = .ok sz w) ∧ (∀ w, (isAgg f.type).run P w = .ok ag w)) (w : World) :
    (fields.mapM (m := Sem) fun f => do pure (f.offset, ← sizeOf f.type)).run P w = .ok (fs.map fun x => (x.1, x.2.1)).toArray w := by
  obtain ⟨fl⟩ := fields
  simp only [List.size_toArray] at hs
  have key : ∀ (fl : List Field) (fs : List (Nat × Nat × Bool)), fl.length = fs.length → (∀ (i off sz : Nat) (ag : Bool), fs[i]? = some (off, sz, ag) → ∃ f : Field, fl[i]? = some f ∧ f.offset = off ∧ (∀ w, (sizeOf f.type).run P w = .ok sz w)) →
      (fl.mapM (m := Sem) fun f => do pure (f.offset, ← sizeOf f.type)).run P w = .ok (fs.map fun x => (x.1, x.2.1)) w := by
    intro fl
    induction fl with
    | nil => intro fs h1 _; cases fs <;> simp_all
    | cons x fl ih =>
      intro fs h1 h2
      cases fs with
      | nil => simp at h1
      | cons q fs =>
        obtain ⟨off, sz, ag⟩ := q
        obtain ⟨f0, e1, e2, e3⟩ := h2 0 off sz ag rfl
        simp only [List.getElem?_cons_zero, Option.some.injEq] at e1
        subst e1
        have := ih fs (by simpa using h1) (fun i off sz ag e => h2 (i + 1) off sz ag (by simpa using e))
        rw [List.mapM_cons]
        simp only [Sem.run_bind, e3, Result.andThen_ok, Sem.run_pure, this, e2, List.map_cons]
  have := key fl fs hs (fun i off sz ag e => by obtain ⟨f0, a, b, c, _⟩ := h i off sz ag e; exact ⟨f0, by simpa using a, b, c⟩)
  rw [List.mapM_toArray]
  simp only [Sem.run_map, this, Result.andThen_ok]
def rowL (sz : Nat) (k : Nat) : List (Nat × Nat × Bool) := (List.range k).map fun i => (i * sz, sz, false)
def rep : Nat → List Value → List Value
  | 0, _ => []
  | k + 1, z => z ++ rep k z
theorem rep_length (z : List Value) : ∀ k, (rep k z).length = k * z.length
  | 0 => by simp [rep]
  | k + 1 => by simp [rep, rep_length z k, Nat.succ_mul, Nat.add_comm]
theorem rep_get (z : List Value) : ∀ (k i : Nat), i < k * z.length → (rep k z)[i]? = some (z[i % z.length]!)
  | 0, i, h => by simp at h
  | k + 1, i, h => by
    have hz : 0 < z.length := by cases hz : z.length with | zero => rw [hz] at h; simp at h | succ m => omega
    simp only [rep]
    by_cases hi : i < z.length
    · rw [List.getElem?_append_left hi, Nat.mod_eq_of_lt hi]; simp [hi]
    · rw [List.getElem?_append_right (by omega), rep_get z k (i - z.length) (by rw [Nat.succ_mul] at h; omega)]
      have : i % z.length = (i - z.length) % z.length := by rw [← Nat.mod_eq_sub_mod (by omega)]
      rw [this]
theorem zero_row (z : Array Value) (m sz : Nat) (hz : z.size = sz) : (Array.range (m * sz)).map (fun i => z[i % z.size]!) = (rep m z.toList).toArray := by
  apply Array.ext_getElem?
  intro i
  have hl : (rep m z.toList).length = m * sz := by rw [rep_length]; simp [hz]
  by_cases hi : i < m * sz
  · have e1 : (rep m z.toList).toArray[i]? = (rep m z.toList)[i]? := by simp
    rw [e1, rep_get z.toList m i (by simpa [hz] using hi)]
    simp [hi, hz]
    rw [getElem!_def]; cases z[i % sz]? <;> rfl
  · have e1 : (rep m z.toList).toArray[i]? = (rep m z.toList)[i]? := by simp
    rw [Array.getElem?_eq_none (by simp; omega), e1, List.getElem?_eq_none (by omega)]
theorem S.bs {t e : TypeId} {len : Nat} {parts : Array (Nat × Operand)} {sz bts : Nat} {ag : Bool} {zs cs : List Value} {l : List (Nat × Value)} [h1 : SlTy P t e] [h2 : Ty P e ag sz zs bts]
    (hp : partsL f parts.toList = some l) (hz0 : Nat.beq zs.length sz = true) (hsm : Nat.ble (len * sz) 16777216 = true) (hf : fitsL (rowL sz len) (len * sz) (cellsOf l) = true) (hc : fillL (rowL sz len) (rep len zs) (cellsOf l) = cs)
    (hk : ∀ b, opsS P n ops rest Q (upd f d (.slice (some ⟨b, 0, none⟩) len len)) (pt b (cl cs e) :: L)) : opsS P n ops (⟨some d, .buildSlice t len parts, ty, pos, af, none⟩ :: rest) Q f L := by
  obtain ⟨z, hz, hz2⟩ := h2.zero
  refine opsS_value (R := fun v L' => ∃ b, v = .slice (some ⟨b, 0, none⟩) len len ∧ L' = pt b (cl cs e) :: L) (fun F a w s t0 => ?_) (by rintro _ _ ⟨b, rfl, rfl⟩; exact hk b)
  refine ⟨_, _, pt w.heap.size (cl cs e) :: L, ?_, St.new t0, _, rfl, rfl⟩
  have e1 : (parts.map fun p => (p.1, a.eval p.2)).toList = l := by simpa using partsL_eq s hp
  have hzl : zs.length = sz := Nat.eq_of_beq_eq_true hz0
  have hsm' : len * sz ≤ 16777216 := Nat.le_of_ble_eq_true hsm
  have e3 : z.cells = zs.toArray := by rw [← hz2]
  have hsz : z.cells.size = sz := by rw [e3]; simpa using hzl
  have e5 := zero_row z.cells len sz hsz
  rw [hz2] at e5
  have hlen : (rep len zs).length = len * sz := by rw [rep_length, hzl]
  have e4 := fill_eq (places := rowL sz len) (pl := fun i => some (i * sz, sz)) (fun i off sz' ag e => by
    simp only [rowL, List.getElem?_map] at e
    by_cases hi : i < len
    · rw [List.getElem?_range hi] at e
      simp only [Option.map_some, Option.some.injEq, Prod.mk.injEq] at e
      rw [← e.1, ← e.2.1]
    · rw [List.getElem?_eq_none (by simpa using hi)] at e; simp at e) l (rep len zs) (by rw [hlen]; exact fitsL_of hf)
  unfold cellsOf at hc
  rw [hc] at e4
  obtain ⟨pl⟩ := parts
  simp only [List.map_toArray] at e1
  have hng : ¬ (len * sz > 2 ^ 24) := by omega
  simp only [execOp, Instr.buildSlice, Sem.run_bind, h1.und, Result.andThen_ok, h2.size, hng, if_false, List.map_toArray, e1]
  by_cases h0 : len * sz = 0
  · have e6 : rep len zs = [] := List.eq_nil_of_length_eq_zero (by omega)
    rw [e6] at e4
    have e7 : ∀ g : Nat → Value, (Array.range 0).map g = ([] : List Value).toArray := fun g => by simp
    simp only [h0, if_true, Sem.run_pure, Result.andThen_ok, e7, e4]
    simp [newRow, cl]
  · simp only [h0, if_false, Sem.run_bind, hz, Result.andThen_ok, Sem.run_pure, e5, e4]
    simp [newRow, cl]
theorem S.len {x : Operand} {t e : TypeId} {a : Option Addr} {m c : Nat} [h : SlTy P t e] (hx : ev f x = some (.slice a m c)) (hk : opsS P n ops rest Q (upd f d (.int .i64 m)) L) :
    opsS P n ops (⟨some d, .call ⟨.builtin .len, #[x], #[t]⟩, ty, pos, af, none⟩ :: rest) Q f L :=
  opsS_pure1 (fun a w s => by simp [execOp, resolve, invoke, s.eval hx, builtin, Builtin.len_, h.und, goInt]) hk
def argsL (f : Env) : List Operand → Option (List Value)
  | [] => some []
  | x :: r => match ev f x, argsL f r with
    | some v, some l => some (v :: l)
    | _, _ => none
theorem argsL_eq {a : Act} (s : Sim n a f) : ∀ {xs : List Operand} {l : List Value}, argsL f xs = some l → xs.map a.eval = l
  | [], l, h => by simp [argsL] at h; simp [h]
  | x :: r, l, h => by
    simp only [argsL] at h
    cases hx : ev f x with
    | none => rw [hx] at h; simp at h
    | some v =>
      rw [hx] at h
      cases hr : argsL f r with
      | none => rw [hr] at h; simp at h
      | some l' =>
        rw [hr] at h
        simp only [Option.some.injEq] at h
        simp [s.eval hx, argsL_eq s hr, ← h]
theorem S.call {dd : Option Tmp} {g : FuncId} {xs : Array Operand} {ats : Array TypeId} {args : List Value} {L1 L2 : List HP} {R : Value → List HP → Prop} [he : Enters P g]
    (hx : argsL f xs.toList = some args) (hc : CallsS P g args L1 R) (hL : Ent L (L1 ++ L2)) (hk : ∀ v L', R v L' → opsS P n ops rest Q (updo f dd v) (L' ++ L2)) :
    opsS P n ops (⟨dd, .call ⟨.value (.func g), xs, ats⟩, ty, pos, af, none⟩ :: rest) Q f L := by
  intro ok F a w s t
  simp only [okOps, List.all_cons, Bool.and_eq_true] at ok
  refine wpList_plain rfl fun K hK => ?_
  have hr : (execOp a.eval ⟨dd, .call ⟨.value (.func g), xs, ats⟩, ty, pos, af, none⟩).run P w = .ok (.enter g args.toArray) w := by
    have : xs.map a.eval = args.toArray := by
      obtain ⟨xl⟩ := xs
      simp [argsL_eq s hx]
    have hev : a.eval (.func g) = .func (.func g) #[] #[] := rfl
    simp [execOp, resolve, Deferred.ofValue, invoke, this, he.run, hev]
  simp only [Oper.wp, hr, Oper.upon]
  have H1 := hL w F t
  rw [List.append_assoc] at H1
  refine (hc (L2 ++ F) w H1).mono ?_
  rintro e w' ⟨v, L', rfl, t', r⟩
  exact hK _ _ (hk v L' r ok.2 F _ _ (s.put ok.1 v) (by rwa [List.append_assoc]))
theorem S.cs {g : FuncId} {xs : Array Operand} {ats : Array TypeId} {args : List Value} {L1 L2 : List HP} {R : Value → List HP → Prop} [he : Enters P g]
    (hx : argsL f xs.toList = some args) (hc : CallsS P g args L1 R) (hL : Ent L (L1 ++ L2)) (hk : ∀ v L', R v L' → opsS P n ops rest Q (upd f d v) (L' ++ L2)) :
    opsS P n ops (⟨some d, .call ⟨.value (.func g), xs, ats⟩, ty, pos, af, none⟩ :: rest) Q f L := S.call hx hc hL hk
theorem S.callR {dd : Option Tmp} {g : FuncId} {xs : Array Operand} {ats : Array TypeId} {args : List Value} {R : Value → List HP → Prop} [he : Enters P g]
    (hx : argsL f xs.toList = some args) (hc : CallsS P g args L R) (hk : ∀ v L', R v L' → opsS P n ops rest Q (updo f dd v) L') :
    opsS P n ops (⟨dd, .call ⟨.value (.func g), xs, ats⟩, ty, pos, af, none⟩ :: rest) Q f L :=
  S.call (L1 := L) (L2 := []) hx hc (by simpa using Ent.refl L) (fun v L' r => by simpa using hk v L' r)
theorem S.cr {g : FuncId} {xs : Array Operand} {ats : Array TypeId} {args : List Value} {R : Value → List HP → Prop} [he : Enters P g]
    (hx : argsL f xs.toList = some args) (hc : CallsS P g args L R) (hk : ∀ v L', R v L' → opsS P n ops rest Q (upd f d v) L') :
    opsS P n ops (⟨some d, .call ⟨.value (.func g), xs, ats⟩, ty, pos, af, none⟩ :: rest) Q f L := S.callR hx hc hk
end
def resOf (a : Act) : ResultVar → Sem Value
  | .tmp t => pure (a.tmps.getD t undef)
  | .cell b t => do loadVar t (← asAddr (a.tmps.getD b undef))
def RV (P : Program) (n : Nat) (rs : List ResultVar) (f : Env) (L : List HP) (l : List Value) : Prop :=
  ∀ F a w, Sim n a f → St w (L ++ F) → (rs.mapM (resOf a)).run P w = .ok l w
theorem RV.nil {P : Program} {n : Nat} {f : Env} {L : List HP} : RV P n [] f L [] := fun F a w s t => by simp
theorem RV.tmp {P : Program} {n : Nat} {rs : List ResultVar} {f : Env} {L : List HP} {l : List Value} {t : Nat} {v : Value} (h : f t = some v) (hr : RV P n rs f L l) : RV P n (.tmp t :: rs) f L (v :: l) := fun F a w s st => by
  have := hr F a w s st
  simp only [List.mapM_cons, resOf, Sem.run_bind, this, Sem.run_pure, Result.andThen_ok, s.at_ t v h]
theorem RV.cellN {P : Program} {n : Nat} {rs : List ResultVar} {f : Env} {L : List HP} {l : List Value} {t ty b o sz bts : Nat} {zs cs : List Value} [hy : Ty P ty true sz zs bts] (h : f t = some (.pointer (some ⟨b, o, none⟩))) (hc : RdC L b o cs) (hn : cs.length = sz) (hr : RV P n rs f L l) : RV P n (.cell t ty :: rs) f L (.agg cs.toArray :: l) := fun F a w s st => by
  have := hr F a w s st
  have h2 := run_loadVarN (h := hy) hn (hc w F st)
  simp only [Instr.loadAt, Instr.sureAddr, Sem.run_bind, Sem.run_pure, Result.andThen_ok] at h2
  simp only [List.mapM_cons, resOf, asAddr, Sem.run_bind, this, Sem.run_pure, Result.andThen_ok, s.at_ t _ h, h2]
def packV : List Value → Value
  | [v] => v
  | l => .tuple l.toArray
def retS (P : Program) (n : Nat) (rs : List ResultVar) (R : Value → List HP → Prop) : Post := fun e f L =>
  match e with
  | .normal | .ret => ∃ l, RV P n rs f L l ∧ ∃ L', Ent L L' ∧ R (packV l) L'
  | _ => False
def argEnv : List Value → Nat → Env
  | [], _ => e0
  | v :: r, k => upd (argEnv r (k + 1)) k v
theorem argEnv_at : ∀ (l : List Value) (k i : Nat) (v : Value), argEnv l k i = some v → k ≤ i ∧ l[i - k]? = some v
  | [], k, i, v, h => by simp [argEnv, e0] at h
  | u :: r, k, i, v, h => by
    simp only [argEnv, upd] at h
    cases hb : Nat.beq i k with
    | true =>
      rw [hb] at h
      have : i = k := Nat.eq_of_beq_eq_true hb
      subst this
      simpa using h
    | false =>
      rw [hb] at h
      obtain ⟨h1, h2⟩ := argEnv_at r (k + 1) i v h
      refine ⟨by omega, ?_⟩
      have : i - k = (i - (k + 1)) + 1 := by omega
      rw [this]; simpa using h2
theorem CallsS.of_body {P : Program} {g : FuncId} {fn : Func} {c : Code} {args : List Value} {L : List HP} {R : Value → List HP → Prop} (hf : P.funcs[g]? = some fn) (hb : fn.body = some c)
    (hok : okCode fn.ntmps c = true) (hn : Nat.ble args.length fn.ntmps = true) (h : swp P fn.ntmps c (retS P fn.ntmps fn.results.toList R) (argEnv args 0) L) : CallsS P g args L R := by
  intro F w t
  have hn' : args.length ≤ fn.ntmps := Nat.le_of_ble_eq_true hn
  refine calls_of_wp hf hb (wp_mono (h hok F _ w ?_ t) ?_)
  · refine ⟨rfl, by simp; omega, fun i v e => ?_⟩
    obtain ⟨_, h2⟩ := argEnv_at args 0 i v e
    simp only [Nat.sub_zero] at h2
    have hi : i < args.length := (List.getElem?_eq_some_iff.1 h2).1
    rw [Array.getD_eq_getD_getElem?, Array.getElem?_append_left (by simpa using hi)]
    simp [h2]
  · rintro e a w ⟨f, L', s, t, q⟩
    have fin : (∃ l, RV P fn.ntmps fn.results.toList f L' l ∧ ∃ L'', Ent L' L'' ∧ R (packV l) L'') → a.defers = [] ∧ ∃ v, (results fn a.tmps).run P w = .ok v w ∧ ∃ v' L'', Ending.returned v = .returned v' ∧ St w (L'' ++ F) ∧ R v' L'' := by
      rintro ⟨l, hl, L2, he, r⟩
      refine ⟨s.defers, packV l, ?_, _, _, rfl, he w F t, r⟩
      have e3 : fn.results = fn.results.toList.toArray := by simp
      have h2 := hl F a w s t
      have e4 : results fn a.tmps = (do let vs ← fn.results.mapM (resOf a); pure (if h : vs.size = 1 then vs[0] else .tuple vs)) := by
        unfold results
        congr 1
      rw [e4, e3, List.mapM_toArray]
      simp only [Sem.run_bind, Sem.run_map]
      rw [h2]
      simp only [Result.andThen_ok, Sem.run_pure]
      cases l with
      | nil => rfl
      | cons x l => cases l <;> simp [packV]
    cases e <;> first | exact fin q | exact q.elim
end Go.SX
namespace Go.SX
open Go
section
variable {K : Env → List HP → Prop} {Q : Post} {f : Env} {L : List HP} {rs : List ResultVar} {R : Value → List HP → Prop}
theorem N.tn (h : K f L) : thenS K Q .normal f L := h
theorem N.tr (h : Q .ret f L) : thenS K Q .ret f L := h
theorem N.te {i : Nat} (h : Q (.exit i) f L) : thenS K Q (.exit i) f L := h
theorem N.bn {i : Nat} (h : Q .normal f L) : blockS i Q .normal f L := h
theorem N.br {i : Nat} (h : Q .ret f L) : blockS i Q .ret f L := h
theorem N.be {i : Nat} (h : Q .normal f L) : blockS i Q (.exit i) f L := by simp only [blockS]; rw [show Nat.beq i i = true from by simp]; exact h
theorem N.bx {i j : Nat} (e : Nat.beq j i = false) (h : Q (.exit j) f L) : blockS i Q (.exit j) f L := by simp only [blockS]; rw [e]; exact h
theorem N.r1 {P : Program} {n : Nat} {v : Value} (h0 : RV P n rs f L [v]) {L' : List HP} (he : Ent L L') (h : R v L') : retS P n rs R .ret f L := ⟨_, h0, _, he, h⟩
theorem N.r2 {P : Program} {n : Nat} {v u : Value} (h0 : RV P n rs f L [v, u]) {L' : List HP} (he : Ent L L') (h : R (.tuple #[v, u]) L') : retS P n rs R .ret f L := ⟨_, h0, _, he, h⟩
theorem N.r3 {P : Program} {n : Nat} {v u x : Value} (h0 : RV P n rs f L [v, u, x]) {L' : List HP} (he : Ent L L') (h : R (.tuple #[v, u, x]) L') : retS P n rs R .ret f L := ⟨_, h0, _, he, h⟩
theorem N.n0 {P : Program} {n : Nat} (h0 : RV P n rs f L []) {L' : List HP} (he : Ent L L') (h : R (.tuple #[]) L') : retS P n rs R .normal f L := ⟨_, h0, _, he, h⟩
end
class Pick (A : HP) (L : List HP) (L0 : outParam (List HP)) : Prop where
  ent : Ent L (A :: L0)
instance Pick.here {A : HP} {L : List HP} : Pick A (A :: L) L := ⟨Ent.refl _⟩
instance (priority := low) Pick.there {A B : HP} {L L0 : List HP} [h : Pick A L L0] : Pick A (B :: L) (B :: L0) := ⟨(h.ent.cons).trans (Ent.perm (.swap _ _ _))⟩
theorem S.cq {P : Program} {n : Nat} {ops rest : List Oper} {Q : Post} {f : Env} {L : List HP} {d : Tmp} {ty : TypeId} {pos : String} {af : Array Edge} {A : HP} {L0 : List HP} {g : FuncId} {xs : Array Operand} {ats : Array TypeId} {args : List Value} {R : Value → List HP → Prop} [he : Enters P g]
    (hx : argsL f xs.toList = some args) (hc : CallsS P g args (A :: L0) R) [hp : Pick A L L0] (hk : ∀ v L', R v L' → opsS P n ops rest Q (upd f d v) L') :
    opsS P n ops (⟨some d, .call ⟨.value (.func g), xs, ats⟩, ty, pos, af, none⟩ :: rest) Q f L := opsS_ent hp.ent (S.cr hx hc hk)
theorem Ent.pick {A : HP} {L L0 L' : List HP} [h : Pick A L L0] (H : Ent L0 L') : Ent L (A :: L') := h.ent.trans H.cons
theorem CallsS.weak {P : Program} {g : FuncId} {args : List Value} {L L' : List HP} {R R' : Value → List HP → Prop} (hL : Ent L L') (h : CallsS P g args L' R) (hR : ∀ v M, R v M → ∃ M', Ent M M' ∧ R' v M') : CallsS P g args L R' := by
  intro F w t
  refine (h F w (hL w F t)).mono ?_
  rintro e w' ⟨v, M, rfl, t', r⟩
  obtain ⟨M', h1, h2⟩ := hR v M r
  exact ⟨v, M', rfl, h1 _ _ t', h2⟩
theorem CallsS.ent {P : Program} {g : FuncId} {args : List Value} {L L' : List HP} {R : Value → List HP → Prop} (hL : Ent L L') (h : CallsS P g args L' R) : CallsS P g args L R := fun F w t => h F w (hL w F t)
theorem CallsS.ex {P : Program} {g : FuncId} {args : List Value} {α : Sort _} {X : α → HP} {L : List HP} {R : Value → List HP → Prop} (h : ∀ x, CallsS P g args (X x :: L) R) : CallsS P g args (exH X :: L) R := fun F w t =>
  let ⟨x, t⟩ := St.open_ex t; h x F w t
theorem CallsS.pure {P : Program} {g : FuncId} {args : List Value} {φ : Prop} {L : List HP} {R : Value → List HP → Prop} (h : φ → CallsS P g args L R) : CallsS P g args (pureH φ :: L) R := fun F w t =>
  let ⟨x, t⟩ := St.open_pure t; h x F w t
theorem CallsS.all {P : Program} {g : FuncId} {args : List Value} {L0 L : List HP} {R : Value → List HP → Prop} (h : CallsS P g args (L0 ++ L) R) : CallsS P g args (allH L0 :: L) R := h.ent Ent.open_all
theorem CallsS.mono {P : Program} {g : FuncId} {args : List Value} {L : List HP} {R R' : Value → List HP → Prop} (h : CallsS P g args L R) (hR : ∀ v M, R v M → R' v M) : CallsS P g args L R' := h.weak (Ent.refl _) fun v M r => ⟨M, Ent.refl _, hR v M r⟩
theorem Ent.ex {α : Sort _} {X : α → HP} {L L' : List HP} (h : ∀ x, Ent (X x :: L) L') : Ent (exH X :: L) L' := fun w F t => let ⟨x, t⟩ := St.open_ex (M := L ++ F) t; h x w F t
theorem Ent.pure {φ : Prop} {L L' : List HP} (h : φ → Ent L L') : Ent (pureH φ :: L) L' := fun w F t => let ⟨x, t⟩ := St.open_pure (M := L ++ F) t; h x w F t
theorem opsS_all {P : Program} {n : Nat} {ops rest : List Oper} {Q : Post} {f : Env} {L0 L : List HP} (h : opsS P n ops rest Q f (L0 ++ L)) : opsS P n ops rest Q f (allH L0 :: L) := opsS_ent Ent.open_all h
theorem swp_all {P : Program} {n : Nat} {c : Code} {Q : Post} {f : Env} {L0 L : List HP} (h : swp P n c Q f (L0 ++ L)) : swp P n c Q f (allH L0 :: L) := swp_ent Ent.open_all h
end Go.SX
namespace Go.SX
open Go
def slO (t sz : Nat) (a : Option Addr) (m c : Nat) (cs : List Value) : HP := fun _ h =>
  cs.length = m * sz ∧ ((a = none ∧ m = 0 ∧ c = 0) ∨ ∃ b rest, a = some ⟨b, 0, none⟩ ∧ m ≤ c ∧ (cs ++ rest).length = c * sz ∧ h b = some (true, cl (cs ++ rest) t))
class UpdS (a : Option Addr) (L : List HP) (t sz m c : outParam Nat) (cs : outParam (List Value)) (L' : outParam (HP → List HP)) : Prop where
  at_ : ∃ R, L.Perm (slO t sz a m c cs :: R) ∧ ∀ x, (x :: R).Perm (L' x)
instance UpdS.here {a : Option Addr} {t sz m c : Nat} {cs : List Value} {L : List HP} : UpdS a (slO t sz a m c cs :: L) t sz m c cs (fun x => x :: L) := ⟨L, .refl _, fun _ => .refl _⟩
instance (priority := low) UpdS.there {a : Option Addr} {t sz m c : Nat} {cs : List Value} {A : HP} {L : List HP} {L' : HP → List HP} [h : UpdS a L t sz m c cs L'] : UpdS a (A :: L) t sz m c cs (fun x => A :: L' x) := by
  obtain ⟨R, h1, h2⟩ := h.at_
  exact ⟨A :: R, (h1.cons A).trans (.swap _ _ _), fun x => List.Perm.trans (.swap _ _ _) ((h2 x).cons A)⟩
theorem slO_fold {b t sz m : Nat} {cs : List Value} {L : List HP} (h : cs.length = m * sz) : Ent (pt b (cl cs t) :: L) (slO t sz (some ⟨b, 0, none⟩) m m cs :: L) := fun w F H =>
  St.of_sep (L := pt b (cl cs t) :: (L ++ F)) (fun hh ⟨h1, h2, o, e, p, r⟩ => ⟨h1, h2, o, e, ⟨h, .inr ⟨b, [], rfl, Nat.le_refl _, by simpa using h, by have p' : h1 b = some (true, cl cs t) := p; simpa using p'⟩⟩, r⟩) H
theorem slO_nil {t sz : Nat} {L : List HP} : Ent L (slO t sz none 0 0 [] :: L) := fun w F H =>
  St.of_sep (fun hh hl => ⟨(fun _ => none : Nat → Option (Bool × Obj)), hh, fun b p o q o' e => by simp at e, by funext b; simp [Hp.add], ⟨by simp, .inl ⟨rfl, rfl, rfl⟩⟩, hl⟩) H
theorem Ent.nilS {t sz : Nat} {L L' : List HP} (h : Ent L L') : Ent L (slO t sz none 0 0 [] :: L') := h.trans slO_nil
theorem St.slO_open {w : World} {t sz m c : Nat} {a : Option Addr} {cs : List Value} {L : List HP} (H : St w (slO t sz a m c cs :: L)) :
    cs.length = m * sz ∧ ((a = none ∧ m = 0 ∧ c = 0 ∧ cs = [] ∧ St w L) ∨ ∃ b rest, a = some ⟨b, 0, none⟩ ∧ m ≤ c ∧ (cs ++ rest).length = c * sz ∧ St w (pt b (cl (cs ++ rest) t) :: L)) := by
  obtain ⟨h0, f, h1, h2, o, e, ⟨hl, hp⟩, m⟩ := H
  refine ⟨hl, ?_⟩
  rcases hp with ⟨ha, hm, hc⟩ | ⟨b, rest, ha, hm, hc, hb⟩
  · refine .inl ⟨ha, hm, hc, List.eq_nil_of_length_eq_zero (by rw [hl, hm]; simp), h2, ?_, m⟩
    subst e; exact Hp.fits_right o f
  · exact .inr ⟨b, rest, ha, hm, hc, h0, f, h1, h2, o, e, hb, m⟩
theorem St.slO_shut {w : World} {t sz m c b : Nat} {cs rest : List Value} {L : List HP} (hl : cs.length = m * sz) (hm : m ≤ c) (hc : (cs ++ rest).length = c * sz) (H : St w (pt b (cl (cs ++ rest) t) :: L)) : St w (slO t sz (some ⟨b, 0, none⟩) m c cs :: L) :=
  St.of_sep (L := pt b (cl (cs ++ rest) t) :: L) (fun hh ⟨h1, h2, o, e, p, r⟩ => ⟨h1, h2, o, e, ⟨hl, .inr ⟨b, rest, rfl, hm, hc, p⟩⟩, r⟩) H
theorem St.slO_none {w : World} {t sz : Nat} {L : List HP} (H : St w L) : St w (slO t sz none 0 0 [] :: L) := slO_nil (t := t) (sz := sz) (L := L) w [] (by simpa using H) |> fun h => by simpa using h
theorem RdC.slO {L : List HP} {t sz m c b : Nat} {cs : List Value} (h : ∃ R, Ent L (slO t sz (some ⟨b, 0, none⟩) m c cs :: R)) : RdC L b 0 cs := fun w F H j v e => by
  obtain ⟨R, h⟩ := h
  have := St.slO_open (h w F H)
  rcases this.2 with ⟨h1, _⟩ | ⟨b', rest, h1, _, _, h4⟩
  · simp at h1
  · simp only [Option.some.injEq, Addr.mk.injEq, and_true] at h1
    subst h1
    have := St.pt_read h4
    have hj : j < cs.length := (List.getElem?_eq_some_iff.1 e).1
    simp [World.cell?, this, cl, List.getElem?_append_left hj, e]
section
variable {P : Program} {n : Nat} {ops rest : List Oper} {Q : Post} {f : Env} {L : List HP}
variable {d : Tmp} {ty : TypeId} {pos : String} {af : Array Edge}
theorem setCells_ext (b : Nat) : ∀ (vs : List Value) (o : Nat) (w : World), ext (w.setCells b o vs) = ext w
  | [], _, _ => rfl
  | v :: r, o, w => (setCells_ext b r (o + 1) (w.setCell ⟨b, o, none⟩ v)).trans rfl
theorem setCells_eq (b : Nat) (t : TypeId) (w : World) : ∀ (vs l : List Value) (o : Nat), w.heap[b]? = some (cl l t) → o + vs.length ≤ l.length →
    (w.setCells b o vs).heap[b]? = some (cl (putAt l o vs) t) ∧ ∀ k, k ≠ b → (w.setCells b o vs).heap[k]? = w.heap[k]? := by
  intro vs
  induction vs generalizing w with
  | nil => intro l o h hl; simp [World.setCells, putAt, h]
  | cons v r ih =>
    intro l o h hl
    simp only [List.length_cons] at hl
    have h1 : (w.setCell ⟨b, o, none⟩ v).heap[b]? = some (cl (l.set o v) t) := by
      simp [World.setCell, Array.getElem?_modify, h, cl]
    obtain ⟨e1, e2⟩ := ih (w.setCell ⟨b, o, none⟩ v) (l.set o v) (o + 1) h1 (by simp; omega)
    refine ⟨?_, fun k hk => ?_⟩
    · simp only [World.setCells]
      rw [e1]
      have := Go.list_seg_step l o v r (by omega)
      simp only [putAt, List.length_cons]
      rw [← this]
    · simp only [World.setCells]
      rw [e2 k hk]
      simp [World.setCell, Array.getElem?_modify, Ne.symm hk]
structure SrcS (P : Program) (L : List HP) (sz : Nat) (tx : TypeId) (x : Value) (k : Nat) (ys : List Value) : Prop where
  src : ∀ w F, St w (L ++ F) → Src P sz tx x k ys w
theorem SrcS.sl {sz : Nat} {tx e' : TypeId} [h : SlTy P tx e'] {b o k c : Nat} {ys : List Value} (hr : RdC L b o ys) (hl : ys.length = k * sz) (h1 : ys.all (·.oneCell') = true) : SrcS P L sz tx (.slice (some ⟨b, o, none⟩) k c) k ys :=
  ⟨fun w F H => Src.ofSlice w h.raw ⟨b, o, none⟩ k c ys hl (fun j u e => by
    have := hr w F H j u e
    have e2 : (⟨b, o, none⟩ : Addr).add j = ⟨b, o + j, none⟩ := by unfold Addr.add; split <;> simp_all
    rw [e2]; exact this) (fun u hu => by simpa using List.all_eq_true.1 h1 u hu)⟩
theorem SrcS.nil {sz : Nat} {tx e' : TypeId} [h : SlTy P tx e'] {c : Nat} : SrcS P L sz tx (.slice none 0 c) 0 [] := ⟨fun w F H => Src.ofNil w h.raw c⟩
theorem S.app {x y : Operand} {t tx e : TypeId} {sz bts : Nat} {ag : Bool} {zs : List Value} {a : Option Addr} {m c k : Nat} {v : Value} {cs ys : List Value} {L' : HP → List HP} [h : SlTy P t e] [h2 : Ty P e ag sz zs bts] [hu : UpdS a L e sz m c cs L']
    (hx : ev f x = some (.slice a m c)) (hy : ev f y = some v) (hs : SrcS P L sz tx v k ys) (hz : zs.length = sz) (hfit : (m + k) * bts ≤ 140737488355328) (h63 : m + k ≤ 9223372036854775807)
    (hk : ∀ a' c', opsS P n ops rest Q (upd f d (.slice a' (m + k) c')) (L' (slO e sz a' (m + k) c' (cs ++ ys)))) :
    opsS P n ops (⟨some d, .call ⟨.builtin .append, #[x, y], #[t, tx]⟩, ty, pos, af, none⟩ :: rest) Q f L := by
  obtain ⟨i, z, hi, hisz, hib, hiz, hzz⟩ := h2.raw
  refine opsS_value (R := fun v L1 => ∃ a' c', v = .slice a' (m + k) c' ∧ L1 = L' (slO e sz a' (m + k) c' (cs ++ ys))) (fun F ac w s t0 => ?_) (by rintro _ _ ⟨a', c', rfl, rfl⟩; exact hk a' c')
  obtain ⟨R, p1, p2⟩ := hu.at_
  have H1 : St w (slO e sz a m c cs :: (R ++ F)) := by simpa using St.perm (p1.append_right F) t0
  have hsrc := hs.src w F t0
  obtain ⟨hcl, hcase⟩ := St.slO_open H1
  have hev : (execOp ac.eval ⟨some d, .call ⟨.builtin .append, #[x, y], #[t, tx]⟩, ty, pos, af, none⟩).run P w = ((Builtin.append_ #[t, tx] ty #[.slice a m c, v]).run P w).andThen fun u w' => .ok (.value u) w' := by
    simp [execOp, resolve, invoke, s.eval hx, s.eval hy, builtin]
  rw [hev]
  clear hev
  have hyl : ys.length = k * sz := by rw [hsrc.newsLen]
  have grow : ∀ (hg : c < m + k), (Builtin.firstCells i.size m (.slice a m c)).run P w.drew = .ok cs.toArray w.drew → St w (R ++ F) →
      ∃ v' w' L1, (((Builtin.append_ #[t, tx] ty #[.slice a m c, v]).run P w).andThen fun u w' => Result.ok (Next.value u) w') = Result.ok (Next.value v') w' ∧ St w' (L1 ++ F) ∧ ∃ a' c', v' = Value.slice a' (m + k) c' ∧ L1 = L' (slO e sz a' (m + k) c' (cs ++ ys)) := by
    intro hg hold hR
    have hfit' : Builtin.nextslicecap (m + k) c * i.bytes ≤ 281474976710656 := growslice_fits hg (by rw [hib]; exact hfit)
    have hr := run_append_grow_src (P := P) w t tx ty e i z h.raw hi hiz a m c cs hold v k ys (hisz ▸ hsrc) hg (by omega) hfit'
    refine ⟨_, _, L' (slO e sz (some ⟨w.heap.size, 0, none⟩) (m + k) (grownCap w (m + k) c e) (cs ++ ys)), by rw [hr]; rfl, ?_, _, _, rfl, rfl⟩
    have hcap : m + k ≤ grownCap w (m + k) c e := by
      simp only [grownCap, Question.cut]; omega
    have hcl2 : (cs ++ ys).length = (m + k) * sz := by simp [hcl, hyl, Nat.add_mul]
    have hzl : z.cells.size = sz := by rw [← hz, ← hzz]; simp
    have H2 : St (w.drew.alloc (.cells ((cs ++ ys).toArray ++ Builtin.zeroCells z.cells (grownCap w (m + k) c e - (m + k))) e)) (pt w.heap.size (cl ((cs ++ ys) ++ (Builtin.zeroCells z.cells (grownCap w (m + k) c e - (m + k))).toList) e) :: (R ++ F)) := by
      refine St.pt_new hR ?_
      show w.heap.push _ = _
      congr 1
      simp [cl]
    have H3 := St.slO_shut hcl2 hcap (by
      simp only [List.length_append, hcl, hyl, Builtin.zeroCells, Array.length_toList, Array.size_map, Array.size_range, hzl]
      rw [← Nat.add_mul, ← Nat.add_mul]; congr 1; omega) H2
    exact St.perm ((p2 _).append_right F) (by simpa using H3)
  rcases hcase with ⟨rfl, rfl, rfl, rfl, hR⟩ | ⟨b, rest', rfl, hmc, hrl, hpt⟩
  · by_cases hk0 : k = 0
    · subst hk0
      have hys : ys = [] := List.eq_nil_of_length_eq_zero (by simpa using hyl)
      subst hys
      refine ⟨.slice none 0 0, w, L' (slO e sz none 0 0 []), ?_, ?_, none, 0, rfl, rfl⟩
      · have := hsrc.cells
        rcases hsrc.kind with ⟨e', hk'⟩ | hk' <;> simp [Builtin.append_, run_underlying h.raw, run_underlying hk', sizeOf, typeInfo, hi, hsrc.len, hisz, this]
      · exact St.perm ((p2 _).append_right F) (by simpa using St.slO_none (t := e) (sz := sz) hR)
    · exact grow (by omega) (by rw [run_firstCells_none]) hR
  · have hrow := St.pt_read hpt
    by_cases hroom : m + k ≤ c
    · have hlen : m * sz + ys.length ≤ (cs ++ rest').length := by rw [hrl, hyl, ← Nat.add_mul]; exact Nat.mul_le_mul_right _ hroom
      have hr := run_append_room_src (P := P) w t tx ty e i h.raw hi b 0 m c v k ys (hisz ▸ hsrc) hroom (fun j hj => by
        rw [hisz]
        have : m * sz + j < (cs ++ rest').length := by omega
        simp only [World.cell?, hrow, cl]
        simp [Nat.zero_add, List.getElem?_eq_getElem this]) (fun j hj => by simp [World.frozen?, hrow, cl])
      rw [hisz, Nat.zero_add] at hr
      refine ⟨.slice (some ⟨b, 0, none⟩) (m + k) c, _, L' (slO e sz (some ⟨b, 0, none⟩) (m + k) c (cs ++ ys)), by rw [hr]; rfl, ?_, _, _, rfl, rfl⟩
      obtain ⟨e1, e2⟩ := setCells_eq b e w ys (cs ++ rest') (m * sz) hrow hlen
      have hput : putAt (cs ++ rest') (m * sz) ys = (cs ++ ys) ++ rest'.drop ys.length := by
        simp only [putAt, ← hcl, List.take_left, List.drop_append, List.append_assoc]
        congr 2
        rw [List.drop_eq_nil_of_le (by omega)]; simp
      have H2 := St.pt_write (w' := w.setCells b (m * sz) ys) (o' := cl ((cs ++ ys) ++ rest'.drop ys.length) e) hpt (by rw [e1, hput]) e2 (setCells_ext ..)
      have H3 := St.slO_shut (m := m + k) (c := c) (sz := sz) (by simp [hcl, hyl, Nat.add_mul]) hroom (by
        simp only [List.length_append, List.length_drop] at hrl hlen ⊢; omega) H2
      exact St.perm ((p2 _).append_right F) (by simpa using H3)
    · refine grow (by omega) ?_ hpt.tail
      refine run_firstCells_some w.drew i.size m _ m c cs (by rw [hisz]; exact hcl) (fun j u hj => ?_)
      have e2 : (⟨b, 0, none⟩ : Addr).add j = ⟨b, j, none⟩ := by unfold Addr.add; split <;> simp_all
      have hj' : j < cs.length := (List.getElem?_eq_some_iff.1 hj).1
      have hrow' : w.drew.heap[b]? = some (cl (cs ++ rest') e) := hrow
      rw [e2]; simp [World.cell?, hrow', cl, List.getElem?_append_left hj', hj]
theorem S.app0 {x y : Operand} {t tx e : TypeId} {sz bts : Nat} {ag : Bool} {zs : List Value} {a : Option Addr} {c k : Nat} {v : Value} {cs ys : List Value} {L' : HP → List HP} [h : SlTy P t e] [h2 : Ty P e ag sz zs bts] [hu : UpdS a L e sz 0 c cs L']
    (hx : ev f x = some (.slice a 0 c)) (hy : ev f y = some v) (hcs : cs = []) (hs : SrcS P L sz tx v k ys) (hz : zs.length = sz) (hfit : k * bts ≤ 140737488355328) (h63 : k ≤ 9223372036854775807)
    (hk : ∀ a' c', opsS P n ops rest Q (upd f d (.slice a' k c')) (L' (slO e sz a' k c' ys))) :
    opsS P n ops (⟨some d, .call ⟨.builtin .append, #[x, y], #[t, tx]⟩, ty, pos, af, none⟩ :: rest) Q f L := by
  subst hcs
  refine S.app hx hy hs hz (by simpa using hfit) (by simpa using h63) (fun a' c' => ?_)
  simpa using hk a' c'
end
end Go.SX
namespace Go.SX
open Go
section
variable {P : Program} {ops : Array Oper} {Q : Exit → Act → World → Prop} {J : Array Bool → World → Prop}
def reach (ops : Array Oper) : Nat → Nat → Nat → Bool
  | 0, _, _ => false
  | k + 1, i, j => match ops[j]? with
    | some o => o.after.any fun e => Region.binds .any e && (e.on == i || reach ops k i e.on)
    | none => false
def shut (ops : Array Oper) (listed : Array Bool) : Prop := ∀ j o, ops[j]? = some o → listed.getD j false = true → ∀ e ∈ o.after, Region.binds .any e = true → listed.getD e.on false = true
theorem shut.reach {listed : Array Bool} (hs : shut ops listed) : ∀ (k i j : Nat) (o : Oper), ops[j]? = some o → (∀ e ∈ o.after, Region.binds .any e = true → listed.getD e.on false = true) → reach ops k i j = true → listed.getD i false = true
  | 0, _, _, _, _, _, h => by simp [SX.reach] at h
  | k + 1, i, j, o, ho, hall, h => by
    simp only [SX.reach, ho] at h
    obtain ⟨e, he, hb⟩ := Array.any_eq_true'.1 h
    simp only [Bool.and_eq_true, Bool.or_eq_true, beq_iff_eq] at hb
    have hl := hall e he hb.1
    rcases hb.2 with h1 | h1
    · rw [← h1]; exact hl
    · cases ho2 : ops[e.on]? with
      | none => cases k <;> simp [SX.reach, ho2] at h1
      | some o2 => exact hs.reach k i e.on o2 ho2 (fun e2 h2 b2 => hs e.on o2 ho2 hl e2 h2 b2) h1
theorem shut.set {listed : Array Bool} {i : Nat} (hs : shut ops listed) (hr : i ∈ Region.ready .any ops listed) : shut ops (listed.setIfInBounds i true) := by
  intro j o ho hj e he hb
  by_cases hij : i = j
  · subst hij
    obtain ⟨_, o', ho', hall⟩ := mem_ready.1 hr
    rw [ho] at ho'; cases ho'
    exact getD_set_true (hall e he hb)
  · rw [getD_set_ne false hij] at hj
    exact getD_set_true (hs j o ho hj e he hb)
def anyI (P : Program) (ops : Array Oper) (Q : Exit → Act → World → Prop) (J : Array Bool → World → Prop) : Nat → Array Bool → Act → World → Prop
  | 0, listed, a, w => Region.ready .any ops listed = [] ∧ Q .normal a w
  | k + 1, listed, a, w => (Region.ready .any ops listed = [] → Q .normal a w) ∧
      ∀ i ∈ Region.ready .any ops listed, wpOp P ops Q i (fun a w => J (listed.setIfInBounds i true) w ∧ anyI P ops Q J k (listed.setIfInBounds i true) a w) a w
theorem anyI_any : ∀ (k : Nat) (listed : Array Bool) (a : Act) (w : World), anyI P ops Q J k listed a w → wpAny P .any ops Q k listed a w
  | 0, _, _, _, h => h
  | k + 1, _, _, _, h => ⟨h.1, fun i hi => wpOp_mono (fun a w hh => anyI_any k _ a w hh.2) (h.2 i hi)⟩
def YI (P : Program) (ops : Array Oper) (I : World → Prop) (o : Oper) (v : Value) (a : Act) : Prop :=
  (Region.wanted o (yielded ops a.tmps) = true ∧ ∀ w, I w → (execOp a.eval o).run P w = .ok (.value v) w) ∨ (Region.wanted o (yielded ops a.tmps) = false ∧ v = undef)
theorem YI.wpOp {I : World → Prop} {i : Nat} {o : Oper} {v : Value} {a : Act} {w : World} (hi : ops[i]? = some o) (hw : I w) (hy : YI P ops I o v a) {K : Act → World → Prop} (h : K (a.put o.dst v) w) : wpOp P ops Q i K a w := by
  unfold Go.wpOp
  simp only [hi]
  rcases hy with ⟨h1, h2⟩ | ⟨h1, rfl⟩
  · simp only [h1, if_true, Oper.wp, h2 w hw, Oper.upon]; exact .inl h
  · simp only [h1, Bool.false_eq_true, if_false]; exact h
theorem YI.put {I : World → Prop} {oi oj : Oper} {v : Value} {a : Act} (hsi : ∀ cs b, oi.op ≠ .select cs b) (h3 : ∀ d, oj.dst = some d → d ∉ oi.looksAt ops) (hy : YI P ops I oi v a) (u : Value) : YI P ops I oi v (a.put oj.dst u) := by
  unfold YI at *
  rw [execOp_put oi hsi a oj.dst u h3, wanted_put oi a oj.dst u h3]
  exact hy
theorem wpOp_behind {I : World → Prop} {j : Nat} {oi oj : Oper} {v : Value} (hj : ops[j]? = some oj) (hap : oi.apart ops oj = true) (hsi : ∀ cs b, oi.op ≠ .select cs b) (hsj : ∀ cs b, oj.op ≠ .select cs b)
    (hQ : ∀ c a w, Q (.panic c) (a.put oi.dst v) w → Q (.panic c) a w) {K : Act → World → Prop} {a : Act} {w : World} (hy : YI P ops I oi v a) (h : wpOp P ops Q j K (a.put oi.dst v) w) :
    wpOp P ops Q j (fun a' w' => YI P ops I oi v a' ∧ K (a'.put oi.dst v) w') a w := by
  obtain ⟨h1, h2, h3⟩ := Oper.apart_spec hap
  unfold wpOp at *
  simp only [hj] at *
  rw [wanted_put oj a oi.dst v h1] at h
  by_cases hw : Region.wanted oj (yielded ops a.tmps) = true
  · rw [if_pos hw] at h ⊢
    unfold Oper.wp Oper.asks at *
    rw [execOp_put oj hsj a oi.dst v h1] at h
    rcases h with h | h
    case inr => exact .inr h
    refine .inl ?_
    generalize (execOp a.eval oj).run P w = r at *
    cases r with
    | ok m w' =>
      cases m <;> simp only [Oper.upon] at h ⊢
      case value u => exact ⟨hy.put hsi h3 u, by rw [← Act.put_comm a v u h2]; exact h⟩
      case skip => exact ⟨hy.put hsi h3 _, by rw [← Act.put_comm a v undef h2]; exact h⟩
      case defer d =>
        refine ⟨YI.put hsi h3 (show YI P ops I oi v { a with defers := d :: a.defers } from hy) _, ?_⟩
        rw [← Act.put_comm _ v undef h2, ← Act.put_defers]; exact h
      case enter f args =>
        refine Calls.mono h fun e w'' he => ?_
        cases e with
        | returned u => exact ⟨hy.put hsi h3 u, by rw [← Act.put_comm a v u h2]; exact he⟩
        | panicked c => exact hQ _ _ _ he
        | outgrown => exact he
      case row row args => exact Rows.mono h fun u w'' he => ⟨hy.put hsi h3 u, by rw [← Act.put_comm a v u h2]; exact he⟩
    | halt x w' =>
      cases x <;> simp only [Oper.upon] at h ⊢
      case panic u => exact hQ _ _ _ h
  · rw [if_neg hw] at h ⊢
    exact ⟨hy.put hsi h3 _, by rw [← Act.put_comm a v undef h2]; exact h⟩
theorem anyI_first {I : World → Prop} {i : Nat} {oi : Oper} {v : Value} (hi : ops[i]? = some oi) (hsel : Region.noSelect ops = true) (hQ : ∀ c a w, Q (.panic c) (a.put oi.dst v) w → Q (.panic c) a w)
    (hJ : ∀ listed w, shut ops listed → listed.getD i false = false → J (listed.setIfInBounds i true) w → J listed w ∧ I w) :
    ∀ (k : Nat) (listed : Array Bool) (a : Act) (w : World), shut ops listed →
      (∀ j oj, ops[j]? = some oj → j ≠ i → listed.getD j true = false → (∀ e ∈ oj.after, Region.binds .any e = true → e.on ≠ i) → oi.apart ops oj = true) →
      i ∈ Region.ready .any ops listed → YI P ops I oi v a → I w → J (listed.setIfInBounds i true) w →
      anyI P ops Q J k (listed.setIfInBounds i true) (a.put oi.dst v) w → anyI P ops Q J (k + 1) listed a w := by
  intro k
  induction k with
  | zero =>
    intro listed a w _ _ hr hy hw hjw H
    refine ⟨fun h => (by rw [h] at hr; cases hr), fun j hj => ?_⟩
    by_cases hji : j = i
    · subst hji; exact hy.wpOp hi hw ⟨hjw, H⟩
    · have := ready_mono hj hji
      rw [H.1] at this; cases this
  | succ k ih =>
    intro listed a w hsh hfree hr hy hw hjw H
    refine ⟨fun h => (by rw [h] at hr; cases hr), fun j hj => ?_⟩
    by_cases hji : j = i
    · subst hji; exact hy.wpOp hi hw ⟨hjw, H⟩
    · have h1 := H.2 j (ready_mono hj hji)
      obtain ⟨hjun, oj, hoj, hall⟩ := mem_ready.1 hj
      have hiun : listed.getD i false = false := by
        have h0 := (mem_ready.1 hr).1
        rcases Nat.lt_or_ge i listed.size with h' | h'
        · simp [h'] at h0 ⊢; exact h0
        · simp [Array.getElem?_eq_none h']
      have hnot : ∀ e ∈ oj.after, Region.binds .any e = true → e.on ≠ i := fun e he hb heq => by
        have h1 := hall e he hb
        rw [heq, hiun] at h1; cases h1
      have h2 := wpOp_behind hoj (hfree j oj hoj hji hjun hnot) (Region.noSelect_spec hsel i oi · · hi) (Region.noSelect_spec hsel j oj · · hoj) hQ hy h1
      have hfree' : ∀ m om, ops[m]? = some om → m ≠ i → (listed.setIfInBounds j true).getD m true = false → (∀ e ∈ om.after, Region.binds .any e = true → e.on ≠ i) → oi.apart ops om = true := fun m om hm hmi hun hno => by
        refine hfree m om hm hmi ?_ hno
        by_cases hjm : j = m
        · subst hjm; exact hjun
        · rw [getD_set_ne true hjm] at hun; exact hun
      have hsh' := hsh.set hj
      have hr' := ready_mono hr (Ne.symm hji)
      have hiun' : (listed.setIfInBounds j true).getD i false = false := by rw [getD_set_ne false hji]; exact hiun
      refine wpOp_mono (fun a' w' h3 => ?_) h2
      obtain ⟨hy', hj', h3⟩ := h3
      rw [Array.setIfInBounds_comm _ _ (Ne.symm hji)] at hj' h3
      obtain ⟨hJ1, hI1⟩ := hJ _ _ hsh' hiun' hj'
      exact ⟨hJ1, ih _ a' w' hsh' hfree' hr' hy' hI1 hj' h3⟩
def until_ (cs : List Nat) (I : World → Prop) (listed : Array Bool) (w : World) : Prop := (∃ m ∈ cs, listed.getD m false = true) ∨ I w
theorem until_back {cs : List Nat} {I I0 : World → Prop} {i : Nat} {listed : Array Bool} {w : World} (h0 : ∀ w, I0 w → I w) (hc : (cs.all fun m => m != i && (ops[m]?).isSome && reach ops 4 i m) = true) (hsh : shut ops listed) (hi : listed.getD i false = false)
    (h : until_ cs I0 (listed.setIfInBounds i true) w) : until_ cs I0 listed w ∧ I w := by
  rcases h with ⟨m, hm, hl⟩ | h
  · have := List.all_eq_true.1 hc m hm
    simp only [Bool.and_eq_true, bne_iff_ne] at this
    obtain ⟨⟨h1, h2⟩, h3⟩ := this
    rw [getD_set_ne false (Ne.symm h1)] at hl
    obtain ⟨o, ho⟩ := Option.isSome_iff_exists.1 h2
    have := hsh.reach 4 i m o ho (fun e he hb => hsh m o ho hl e he hb) h3
    rw [hi] at this; cases this
  · exact ⟨.inr h, h0 w h⟩
theorem until_back' {cs : List Nat} {I0 : World → Prop} {i : Nat} {listed : Array Bool} {w : World} (hc : cs.contains i = false)
    (h : until_ cs I0 (listed.setIfInBounds i true) w) : until_ cs I0 listed w := by
  rcases h with ⟨m, hm, hl⟩ | h
  · have : m ≠ i := fun e => by subst e; simp at hc; exact hc hm
    rw [getD_set_ne false (Ne.symm this)] at hl
    exact .inl ⟨m, hm, hl⟩
  · exact .inr h
theorem shut_none (m : Nat) : shut ops (Array.replicate m false) := by
  intro j o ho hj
  simp [Array.getD_eq_getD_getElem?, Array.getElem?_replicate] at hj
  split at hj <;> simp at hj
end
section
variable {P : Program} {n : Nat} {ops : List Oper} {Q : Post} {f : Env} {A L : List HP} {cs : List Nat}
def anyS (P : Program) (n : Nat) (ops : List Oper) (Q : Post) (cs : List Nat) (A : List HP) (k : Nat) (listed : Array Bool) (held : Bool) (f : Env) (L : List HP) : Prop :=
  okOps n ops = true → ∀ F a w, Sim n a f → shut ops.toArray listed → St w ((bif held then L ++ A else L) ++ F) → (held = false → ∃ m ∈ cs, listed.getD m false = true) →
    anyI P ops.toArray (lift n F Q) (until_ cs fun w => ∃ L, St w (L ++ (A ++ F))) k listed a w
theorem swp_draw {id : Nat} (cs : List Nat) (A L1 : List HP) (hm : P.follows .mixedOrders = true) (hL : Ent L (L1 ++ A)) (h : anyS P n ops Q cs A ops.length (Array.replicate ops.length false) true f L1) : swp P n (.region id ops.toArray true) Q f L := by
  intro ok F a w s t
  refine wp_region_any hm ?_
  have h0 := h (by simpa [okCode] using ok) F a { w with drawn := w.drawn + 1 } s (shut_none _) (St.heap (w := w) rfl (hL w F t)) (fun h => by cases h)
  have := anyI_any _ _ _ _ h0
  simpa using this
theorem okOps_at {i : Nat} {o : Oper} (ok : okOps n ops = true) (hi : ops[i]? = some o) : o.dst.all (fun d => decide (d < n)) = true :=
  List.all_eq_true.1 ok o (List.mem_of_getElem? hi)
def YieldS (P : Program) (n : Nat) (ops : List Oper) (o : Oper) (f : Env) (A : List HP) (v : Value) : Prop :=
  ∀ a, Sim n a f → (Region.wanted o (yielded ops.toArray a.tmps) = true ∧ ∀ w F, St w (A ++ F) → (execOp a.eval o).run P w = .ok (.value v) w) ∨ (Region.wanted o (yielded ops.toArray a.tmps) = false ∧ v = undef)
def oneS (P : Program) (n : Nat) (ops : List Oper) (o : Oper) (K : Env → List HP → Prop) (f : Env) (L : List HP) : Prop :=
  opsS P n ops [o] (fun e f L => match e with | .normal => K f L | _ => False) f L
theorem ready_unlisted {i : Nat} {listed : Array Bool} {ops : Array Oper} (hr : i ∈ Region.ready .any ops listed) : listed.getD i false = false := by
  have h0 := (mem_ready.1 hr).1
  rcases Nat.lt_or_ge i listed.size with h' | h'
  · simp [h'] at h0 ⊢; exact h0
  · simp [Array.getElem?_eq_none h']
theorem hit_set {i : Nat} {listed : Array Bool} (h : ∃ m ∈ cs, listed.getD m false = true) : ∃ m ∈ cs, (listed.setIfInBounds i true).getD m false = true := by
  obtain ⟨m, hm, hl⟩ := h; exact ⟨m, hm, getD_set_true hl⟩
theorem A.takeR (i : Nat) {k : Nat} {listed : Array Bool} {o : Oper} {v : Value} (hi : ops[i]? = some o) (hs : Region.noSelect ops.toArray = true) (hf : Region.free .any ops.toArray listed i = true) (hr : (Region.ready .any ops.toArray listed).contains i = true)
    (hc : (cs.all fun m => m != i && (ops.toArray[m]?).isSome && reach ops.toArray 4 i m) = true) (hy : YieldS P n ops o f A v) (hQ : ∀ c f L, ¬ Q (.panic c) f L) (h : anyS P n ops Q cs A k (listed.setIfInBounds i true) true (updo f o.dst v) L) : anyS P n ops Q cs A (k + 1) listed true f L := by
  intro ok F a w s hsh t hh
  have hi' : ops.toArray[i]? = some o := by simpa using hi
  have hr' : i ∈ Region.ready .any ops.toArray listed := by simpa using hr
  have t' : St w (L ++ (A ++ F)) := by simpa using t
  refine anyI_first (I := fun w => ∃ L, St w (L ++ (A ++ F))) (J := until_ cs fun w => ∃ L, St w (L ++ (A ++ F))) hi' hs (fun c a w ⟨_, _, _, _, q⟩ => absurd q (hQ _ _ _)) (fun listed w hsh hun hj => until_back (fun _ h => h) hc hsh hun hj) k listed a w hsh (Region.free_spec hi' hf) hr' ?_ ⟨L, t'⟩ (.inr ⟨L, t'⟩)
    (h ok F _ w (s.put (okOps_at ok hi) v) (hsh.set hr') t (fun h => by cases h))
  rcases hy a s with ⟨h1, h2⟩ | h1
  · exact .inl ⟨h1, fun w ⟨L, t⟩ => h2 w F (St.drop_left t)⟩
  · exact .inr h1
theorem A.take (i : Nat) {k : Nat} {listed : Array Bool} {held : Bool} {o : Oper} {v : Value} (hi : ops[i]? = some o) (hs : Region.noSelect ops.toArray = true) (hf : Region.free .any ops.toArray listed i = true) (hr : (Region.ready .any ops.toArray listed).contains i = true)
    (hc : cs.contains i = false) (hy : YieldS P n ops o f [] v) (hQ : ∀ c f L, ¬ Q (.panic c) f L) (h : anyS P n ops Q cs A k (listed.setIfInBounds i true) held (updo f o.dst v) L) : anyS P n ops Q cs A (k + 1) listed held f L := by
  intro ok F a w s hsh t hh
  have hi' : ops.toArray[i]? = some o := by simpa using hi
  have hr' : i ∈ Region.ready .any ops.toArray listed := by simpa using hr
  refine anyI_first (I := fun w => ∃ L, St w L) (J := until_ cs fun w => ∃ L, St w (L ++ (A ++ F))) hi' hs (fun c a w ⟨_, _, _, _, q⟩ => absurd q (hQ _ _ _)) (fun listed w hsh hun hj => ⟨until_back' hc hj, [], St.drop_all w⟩) k listed a w hsh (Region.free_spec hi' hf) hr' ?_ ⟨[], St.drop_all w⟩ ?_
    (h ok F _ w (s.put (okOps_at ok hi) v) (hsh.set hr') t (fun h => hit_set (hh h)))
  · rcases hy a s with ⟨h1, h2⟩ | h1
    · exact .inl ⟨h1, fun w ⟨L, t⟩ => h2 w L t⟩
    · exact .inr h1
  · cases held with
    | true => exact .inr ⟨L, by simpa using t⟩
    | false => exact .inl (hit_set (hh rfl))
theorem one_of {i : Nat} {o : Oper} {M M' : List HP} {F : List HP} {a : Act} {w : World} {k : Nat} {listed : Array Bool} {held : Bool} (hi : ops[i]? = some o) (ok : okOps n ops = true) (s : Sim n a f) (t : St w (M ++ (M' ++ F))) (hsh : shut ops.toArray (listed.setIfInBounds i true))
    (hcond : (held = true ∧ M' = A) ∨ (held = false ∧ M' = [] ∧ ∃ m ∈ cs, (listed.setIfInBounds i true).getD m false = true))
    (h : oneS P n ops o (fun f L => anyS P n ops Q cs A k (listed.setIfInBounds i true) held f L) f M) :
    wpOp P ops.toArray (lift n F Q) i (fun a w => until_ cs (fun w => ∃ L, St w (L ++ (A ++ F))) (listed.setIfInBounds i true) w ∧ anyI P ops.toArray (lift n F Q) (until_ cs fun w => ∃ L, St w (L ++ (A ++ F))) k (listed.setIfInBounds i true) a w) a w := by
  have h2 := h (by simpa [okOps] using okOps_at ok hi) (M' ++ F) a w s t
  simp only [wpList] at h2
  unfold wpOp
  have hi' : ops.toArray[i]? = some o := by simpa using hi
  simp only [hi']
  have key : ∀ a w, lift n (M' ++ F) (fun e f L => match e with | .normal => anyS P n ops Q cs A k (listed.setIfInBounds i true) held f L | _ => False) .normal a w →
      until_ cs (fun w => ∃ L, St w (L ++ (A ++ F))) (listed.setIfInBounds i true) w ∧ anyI P ops.toArray (lift n F Q) (until_ cs fun w => ∃ L, St w (L ++ (A ++ F))) k (listed.setIfInBounds i true) a w := by
    rintro a w ⟨f, L, s, t, q⟩
    rcases hcond with ⟨rfl, rfl⟩ | ⟨rfl, rfl, hm⟩
    · exact ⟨.inr ⟨L, t⟩, q ok F a w s hsh (by simpa using t) (fun h => by cases h)⟩
    · exact ⟨.inl hm, q ok F a w s hsh (by simpa using t) (fun _ => hm)⟩
  by_cases hw : Region.wanted o (yielded ops.toArray a.tmps) = true
  · rw [if_pos hw] at h2 ⊢
    refine .inl ?_
    rcases h2 with h2 | ⟨_, a', w', f, L, _, _, q⟩
    · unfold Oper.wp at h2 ⊢
      generalize (execOp a.eval o).run P w = r at *
      cases r with
      | ok m w' =>
        cases m <;> simp only [Oper.upon] at h2 ⊢ <;> first
          | exact key _ _ h2
          | exact h2
          | (refine Calls.mono h2 fun e w'' he => ?_
             cases e with
             | returned u => exact key _ _ he
             | panicked c => obtain ⟨_, _, _, _, q⟩ := he; exact q.elim
             | outgrown => obtain ⟨_, _, _, _, _, _, q⟩ := he; exact q.elim)
          | exact Rows.mono h2 fun _ _ he => key _ _ he
      | halt x w' => cases x <;> simp only [Oper.upon] at h2 ⊢ <;> first | exact h2 | (obtain ⟨_, _, _, _, q⟩ := h2; exact q.elim)
    · exact q.elim
  · rw [if_neg hw] at h2 ⊢
    exact key _ _ h2
theorem A.one (i : Nat) {k : Nat} {listed : Array Bool} {held : Bool} {o : Oper} (hr : Region.ready .any ops.toArray listed = [i]) (hi : ops[i]? = some o)
    (h : oneS P n ops o (fun f L => anyS P n ops Q cs A k (listed.setIfInBounds i true) held f L) f L) : anyS P n ops Q cs A (k + 1) listed held f L := by
  intro ok F a w s hsh t hh
  refine ⟨fun h0 => (by rw [h0] at hr; cases hr), fun j hj => ?_⟩
  have hri : i ∈ Region.ready .any ops.toArray listed := by rw [hr]; simp
  rw [hr] at hj
  obtain rfl : j = i := by simpa using hj
  cases held with
  | true => exact one_of (M' := A) hi ok s (by simpa using t) (hsh.set hri) (.inl ⟨rfl, rfl⟩) h
  | false => exact one_of (M' := []) hi ok s (by simpa using t) (hsh.set hri) (.inr ⟨rfl, rfl, hit_set (hh rfl)⟩) h
theorem A.oneC (i : Nat) {k : Nat} {listed : Array Bool} {o : Oper} (hr : Region.ready .any ops.toArray listed = [i]) (hi : ops[i]? = some o) (hc : cs.contains i = true)
    (h : oneS P n ops o (fun f L => anyS P n ops Q cs A k (listed.setIfInBounds i true) false f L) f (L ++ A)) : anyS P n ops Q cs A (k + 1) listed true f L := by
  intro ok F a w s hsh t hh
  refine ⟨fun h0 => (by rw [h0] at hr; cases hr), fun j hj => ?_⟩
  have hri : i ∈ Region.ready .any ops.toArray listed := by rw [hr]; simp
  rw [hr] at hj
  obtain rfl : j = i := by simpa using hj
  refine one_of (M' := []) hi ok s (by simpa using t) (hsh.set hri) (.inr ⟨rfl, rfl, j, by simpa using hc, ?_⟩) h
  have h0 := ready_unlisted hri
  have := mem_ready.1 hri
  have hlt : j < listed.size := by
    rcases Nat.lt_or_ge j listed.size with h' | h'
    · exact h'
    · have := this.1; simp [Array.getElem?_eq_none h'] at this
  simp [hlt]
theorem A.two (i j : Nat) {k : Nat} {listed : Array Bool} {held : Bool} {o o' : Oper} (hr : Region.ready .any ops.toArray listed = [i, j]) (hi : ops[i]? = some o) (hj : ops[j]? = some o')
    (h : oneS P n ops o (fun f L => anyS P n ops Q cs A k (listed.setIfInBounds i true) held f L) f L)
    (h' : oneS P n ops o' (fun f L => anyS P n ops Q cs A k (listed.setIfInBounds j true) held f L) f L) : anyS P n ops Q cs A (k + 1) listed held f L := by
  intro ok F a w s hsh t hh
  refine ⟨fun h0 => (by rw [h0] at hr; cases hr), fun m hm => ?_⟩
  have hri : i ∈ Region.ready .any ops.toArray listed := by rw [hr]; simp
  have hrj : j ∈ Region.ready .any ops.toArray listed := by rw [hr]; simp
  rw [hr] at hm
  rcases (by simpa using hm : m = i ∨ m = j) with rfl | rfl
  · cases held with
    | true => exact one_of (M' := A) hi ok s (by simpa using t) (hsh.set hri) (.inl ⟨rfl, rfl⟩) h
    | false => exact one_of (M' := []) hi ok s (by simpa using t) (hsh.set hri) (.inr ⟨rfl, rfl, hit_set (hh rfl)⟩) h
  · cases held with
    | true => exact one_of (M' := A) hj ok s (by simpa using t) (hsh.set hrj) (.inl ⟨rfl, rfl⟩) h'
    | false => exact one_of (M' := []) hj ok s (by simpa using t) (hsh.set hrj) (.inr ⟨rfl, rfl, hit_set (hh rfl)⟩) h'
theorem A.done {k : Nat} {listed : Array Bool} (hr : Region.ready .any ops.toArray listed = []) (h : Q .normal f L) : anyS P n ops Q cs A k listed false f L := by
  intro ok F a w s _ t _
  have hq : lift n F Q .normal a w := ⟨f, _, s, t, h⟩
  cases k with
  | zero => exact ⟨hr, hq⟩
  | succ k => exact ⟨fun _ => hq, by rw [hr]; simp⟩
theorem anyS_endP {k : Nat} {listed : Array Bool} {L2 : List HP} (hL : Ent (L ++ A) L2) (hr : Region.ready .any ops.toArray listed = []) (h : Q .normal f L2) : anyS P n ops Q cs A k listed true f L := by
  intro ok F a w s _ t _
  have hq : lift n F Q .normal a w := ⟨f, L2, s, hL w F t, h⟩
  cases k with
  | zero => exact ⟨hr, hq⟩
  | succ k => exact ⟨fun _ => hq, by rw [hr]; simp⟩
theorem anyS_ent {k : Nat} {listed : Array Bool} {held : Bool} {L' : List HP} (h : Ent L L') (H : anyS P n ops Q cs A k listed held f L') : anyS P n ops Q cs A k listed held f L :=
  fun ok F a w s hsh t hh => H ok F a w s hsh (by cases held with
    | true => exact h.app w F t
    | false => exact h w F t) hh
end
end Go.SX
namespace Go.SX
open Go
theorem wpList_mono {P : Program} {ops : Array Oper} {Q Q' : Exit → Act → World → Prop} : ∀ {l : List Oper} {a : Act} {w : World}, wpList P ops Q l a w → (∀ e a w, Q e a w → Q' e a w) → wpList P ops Q' l a w
  | [], a, w, h, hq => hq _ _ _ h
  | o :: l, a, w, h, hq => by
    unfold wpList at h ⊢
    split at h
    · rename_i hw
      rw [if_pos hw]
      rcases h with h | ⟨h1, a', w', h2⟩
      · refine .inl ?_
        unfold Oper.wp at h ⊢
        generalize (execOp a.eval o).run P w = r at *
        cases r with
        | ok m w' =>
          cases m <;> simp only [Oper.upon] at h ⊢ <;> first
            | exact wpList_mono h hq
            | exact h
            | (refine Calls.mono h fun e w'' he => ?_
               cases e with
               | returned u => exact wpList_mono he hq
               | panicked c => exact hq _ _ _ he
               | outgrown => obtain ⟨a', w', q⟩ := he; exact ⟨a', w', hq _ _ _ q⟩)
            | exact Rows.mono h fun _ _ he => wpList_mono he hq
        | halt x w' => cases x <;> simp only [Oper.upon] at h ⊢ <;> first | exact h | exact hq _ _ _ h
      · exact .inr ⟨h1, a', w', hq _ _ _ h2⟩
    · rename_i hw
      rw [if_neg hw]
      exact wpList_mono h hq
section
variable {P : Program} {n : Nat} {ops rest : List Oper} {Q : Post} {f : Env} {A L : List HP}
variable {d : Tmp} {ty : TypeId} {pos : String} {af : Array Edge}
theorem Y.of {dd : Option Tmp} {op : Op} {v : Value} (h : ∀ a w, Sim n a f → (execOp a.eval ⟨dd, op, ty, pos, af, none⟩).run P w = .ok (.value v) w) : YieldS P n ops ⟨dd, op, ty, pos, af, none⟩ f A v :=
  fun a s => .inl ⟨rfl, fun w _ _ => h a w s⟩
theorem Y.of' {dd : Option Tmp} {op : Op} {v : Value} (h : ∀ a w F, Sim n a f → St w (A ++ F) → (execOp a.eval ⟨dd, op, ty, pos, af, none⟩).run P w = .ok (.value v) w) : YieldS P n ops ⟨dd, op, ty, pos, af, none⟩ f A v :=
  fun a s => .inl ⟨rfl, fun w F t => h a w F s t⟩
theorem Y.guard {dd : Option Tmp} {op : Op} {v : Value} {g : Nat × Bool} (hg : wantS ops f g = some true) (h : YieldS P n ops ⟨dd, op, ty, pos, af, none⟩ f A v) : YieldS P n ops ⟨dd, op, ty, pos, af, some g⟩ f A v := fun a s => by
  have hw := wanted_of s hg ⟨dd, op, ty, pos, af, some g⟩ rfl
  rcases h a s with ⟨_, h2⟩ | ⟨h1, _⟩
  · exact .inl ⟨hw, h2⟩
  · exact absurd h1 (by simp [Region.wanted])
theorem Y.gskip {dd : Option Tmp} {op : Op} {g : Nat × Bool} (hg : wantS ops f g = some false) : YieldS P n ops ⟨dd, op, ty, pos, af, some g⟩ f A undef := fun a s =>
  .inr ⟨wanted_of s hg ⟨dd, op, ty, pos, af, some g⟩ rfl, rfl⟩
theorem S.y {op : Op} {g : Option (Nat × Bool)} {v : Value} (hy : YieldS P n ops ⟨some d, op, ty, pos, af, g⟩ f L v) (hk : opsS P n ops rest Q (upd f d v) L) : opsS P n ops (⟨some d, op, ty, pos, af, g⟩ :: rest) Q f L := by
  intro ok F a w s t
  simp only [okOps, List.all_cons, Bool.and_eq_true] at ok
  unfold wpList
  rcases hy a s with ⟨h1, h2⟩ | ⟨h1, rfl⟩
  · rw [if_pos h1]
    refine .inl ?_
    simp only [Oper.wp, h2 w F t, Oper.upon]
    exact hk ok.2 F _ _ (s.put ok.1 v) t
  · rw [if_neg (by rw [h1]; simp)]
    exact hk ok.2 F _ _ (s.put ok.1 undef) t
theorem Y.mv {x : Operand} {v : Value} (hx : ev f x = some v) : YieldS P n ops ⟨some d, .move x, ty, pos, af, none⟩ f A (v) :=  Y.of (fun a w s => by simp [execOp, s.eval hx])
theorem Y.as {x : Operand} {v : Value} (hx : ev f x = some v) : YieldS P n ops ⟨some d, .assign x, ty, pos, af, none⟩ f A (v) :=  Y.of (fun a w s => by simp [execOp, s.eval hx])
theorem Y.pk_t {c x y : Operand} {v : Value} (hc : ev f c = some (.bool true)) (hx : ev f x = some v) : YieldS P n ops ⟨some d, .pick c x y, ty, pos, af, none⟩ f A (v) :=  Y.of (fun a w s => by simp [execOp, s.eval hx, s.eval hc, asBool])
theorem Y.pk_f {c x y : Operand} {v : Value} (hc : ev f c = some (.bool false)) (hy : ev f y = some v) : YieldS P n ops ⟨some d, .pick c x y, ty, pos, af, none⟩ f A (v) :=  Y.of (fun a w s => by simp [execOp, s.eval hy, s.eval hc, asBool])
theorem Y.ext {x : Operand} {i : Nat} {vs : Array Value} {v : Value} (hx : ev f x = some (.tuple vs)) (hv : vs.toList[i]? = some v) : YieldS P n ops ⟨some d, .extract x i, ty, pos, af, none⟩ f A (v) :=  Y.of (fun a w s => by
    have hv' : vs[i]? = some v := by simpa using hv
    simp [execOp, s.eval hx, Instr.extract, hv'])
theorem Y.nc {x : Operand} {ad : Addr} (hx : ev f x = some (.pointer (some ad))) : YieldS P n ops ⟨some d, .nilCheck x, ty, pos, af, none⟩ f A ((.pointer (some ad))) :=  Y.of (fun a w s => by simp [execOp, s.eval hx])
theorem Y.lss {x y : Operand} {t t' : TypeId} {k : IntKind} {a b : Int} (hx : ev f x = some (.int k a)) (hy : ev f y = some (.int k b)) : YieldS P n ops ⟨some d, .binOp .lss t x y t', ty, pos, af, none⟩ f A ((.bool (decide (a < b)))) :=  Y.of (fun _ w s => by simp [execOp, s.eval hx, s.eval hy, eqGuard, binOp, Op.intCmp])
theorem Y.leq {x y : Operand} {t t' : TypeId} {k : IntKind} {a b : Int} (hx : ev f x = some (.int k a)) (hy : ev f y = some (.int k b)) : YieldS P n ops ⟨some d, .binOp .leq t x y t', ty, pos, af, none⟩ f A ((.bool (decide (a ≤ b)))) :=  Y.of (fun _ w s => by simp [execOp, s.eval hx, s.eval hy, eqGuard, binOp, Op.intCmp])
theorem Y.gtr {x y : Operand} {t t' : TypeId} {k : IntKind} {a b : Int} (hx : ev f x = some (.int k a)) (hy : ev f y = some (.int k b)) : YieldS P n ops ⟨some d, .binOp .gtr t x y t', ty, pos, af, none⟩ f A ((.bool (decide (b < a)))) :=  Y.of (fun _ w s => by simp [execOp, s.eval hx, s.eval hy, eqGuard, binOp, Op.intCmp])
theorem Y.geq {x y : Operand} {t t' : TypeId} {k : IntKind} {a b : Int} (hx : ev f x = some (.int k a)) (hy : ev f y = some (.int k b)) : YieldS P n ops ⟨some d, .binOp .geq t x y t', ty, pos, af, none⟩ f A ((.bool (decide (b ≤ a)))) :=  Y.of (fun _ w s => by simp [execOp, s.eval hx, s.eval hy, eqGuard, binOp, Op.intCmp])
theorem Y.eqi {x y : Operand} {t t' : TypeId} {k : IntKind} {a b : Int} (hx : ev f x = some (.int k a)) (hy : ev f y = some (.int k b)) : YieldS P n ops ⟨some d, .binOp .eql t x y t', ty, pos, af, none⟩ f A ((.bool (decide (a = b)))) :=  Y.of (fun _ w s => by simp [execOp, s.eval hx, s.eval hy, eqGuard, binOp, Op.intCmp]; rfl)
theorem Y.nei {x y : Operand} {t t' : TypeId} {k : IntKind} {a b : Int} (hx : ev f x = some (.int k a)) (hy : ev f y = some (.int k b)) : YieldS P n ops ⟨some d, .binOp .neq t x y t', ty, pos, af, none⟩ f A ((.bool (!decide (a = b)))) :=  Y.of (fun _ w s => by simp [execOp, s.eval hx, s.eval hy, eqGuard, binOp, Op.intCmp]; rfl)
theorem Y.add {x y : Operand} {t t' : TypeId} {k : IntKind} {a b : Int} (hx : ev f x = some (.int k a)) (hy : ev f y = some (.int k b)) : YieldS P n ops ⟨some d, .binOp .add t x y t', ty, pos, af, none⟩ f A ((.int k (k.wrap (a + b)))) :=  Y.of (fun _ w s => by simp [execOp, s.eval hx, s.eval hy, eqGuard, binOp, Op.intArith])
theorem Y.sub {x y : Operand} {t t' : TypeId} {k : IntKind} {a b : Int} (hx : ev f x = some (.int k a)) (hy : ev f y = some (.int k b)) : YieldS P n ops ⟨some d, .binOp .sub t x y t', ty, pos, af, none⟩ f A ((.int k (k.wrap (a - b)))) :=  Y.of (fun _ w s => by simp [execOp, s.eval hx, s.eval hy, eqGuard, binOp, Op.intArith])
theorem Y.addi {x y : Operand} {t t' : TypeId} {a b c : Int} (hx : ev f x = some (.int .i64 a)) (hy : ev f y = some (.int .i64 b)) (hc : a + b = c) (h1 : -9223372036854775808 ≤ c) (h2 : c ≤ 9223372036854775807) : YieldS P n ops ⟨some d, .binOp .add t x y t', ty, pos, af, none⟩ f A ((.int .i64 c)) := by
  have := Y.add (P := P) (n := n) (ops := ops) (A := A) (d := d) (ty := ty) (pos := pos) (af := af) (t := t) (t' := t') hx hy
  rwa [hc, wrap_i64 h1 h2] at this
theorem Y.subi {x y : Operand} {t t' : TypeId} {a b c : Int} (hx : ev f x = some (.int .i64 a)) (hy : ev f y = some (.int .i64 b)) (hc : a - b = c) (h1 : -9223372036854775808 ≤ c) (h2 : c ≤ 9223372036854775807) : YieldS P n ops ⟨some d, .binOp .sub t x y t', ty, pos, af, none⟩ f A ((.int .i64 c)) := by
  have := Y.sub (P := P) (n := n) (ops := ops) (A := A) (d := d) (ty := ty) (pos := pos) (af := af) (t := t) (t' := t') hx hy
  rwa [hc, wrap_i64 h1 h2] at this
theorem Y.rem {x y : Operand} {t t' : TypeId} {k : IntKind} {a b : Int} (hx : ev f x = some (.int k a)) (hy : ev f y = some (.int k b)) (hb : ¬ b = 0) : YieldS P n ops ⟨some d, .binOp .rem t x y t', ty, pos, af, none⟩ f A ((.int k (a.tmod b))) :=  Y.of (fun _ w s => by simp [execOp, s.eval hx, s.eval hy, eqGuard, binOp, Op.intDiv, hb])
theorem Y.quo {x y : Operand} {t t' : TypeId} {k : IntKind} {a b : Int} (hx : ev f x = some (.int k a)) (hy : ev f y = some (.int k b)) (hb : ¬ b = 0) : YieldS P n ops ⟨some d, .binOp .quo t x y t', ty, pos, af, none⟩ f A ((.int k (k.wrap (a.tdiv b)))) :=  Y.of (fun _ w s => by simp [execOp, s.eval hx, s.eval hy, eqGuard, binOp, Op.intDiv, hb])
theorem Y.xor {x y : Operand} {t t' : TypeId} {k : IntKind} {a b : Int} (hx : ev f x = some (.int k a)) (hy : ev f y = some (.int k b)) : YieldS P n ops ⟨some d, .binOp .xor t x y t', ty, pos, af, none⟩ f A ((.int k (k.wrap ((BitVec.ofInt k.bits a) ^^^ (BitVec.ofInt k.bits b)).toNat))) :=  Y.of (fun _ w s => by simp [execOp, s.eval hx, s.eval hy, eqGuard, binOp, Op.intBits])
theorem Y.not {x : Operand} {t : TypeId} {b : Bool} (hx : ev f x = some (.bool b)) : YieldS P n ops ⟨some d, .unOp .not t x, ty, pos, af, none⟩ f A ((.bool (!b))) :=  Y.of (fun _ w s => by simp [execOp, s.eval hx, Op.unary])
theorem Y.eqp {x y : Operand} {t t' e : TypeId} [h : PtrTy P t e] {a : Option Addr} (hx : ev f x = some (.pointer a)) (hy : ev f y = some (.pointer none)) : YieldS P n ops ⟨some d, .binOp .eql t x y t', ty, pos, af, none⟩ f A ((.bool a.isNone)) :=  Y.of (fun _ w s => by
    have e : (Op.equal t (.pointer a) (.pointer none)).run P w = .ok (a.isNone) w := run_eqIn_ptr 9999 h.und w
    simp [execOp, s.eval hx, s.eval hy, eqGuard, binOp, e])
theorem Y.nep {x y : Operand} {t t' e : TypeId} [h : PtrTy P t e] {a : Option Addr} (hx : ev f x = some (.pointer a)) (hy : ev f y = some (.pointer none)) : YieldS P n ops ⟨some d, .binOp .neq t x y t', ty, pos, af, none⟩ f A ((.bool (!a.isNone))) :=  Y.of (fun _ w s => by
    have e : (Op.equal t (.pointer a) (.pointer none)).run P w = .ok (a.isNone) w := run_eqIn_ptr 9999 h.und w
    simp [execOp, s.eval hx, s.eval hy, eqGuard, binOp, e])
theorem Y.eqs {x y : Operand} {t t' e : TypeId} [h : SlTy P t e] {a : Option Addr} {m c m' c' : Nat} (hx : ev f x = some (.slice a m c)) (hy : ev f y = some (.slice none m' c')) : YieldS P n ops ⟨some d, .binOp .eql t x y t', ty, pos, af, none⟩ f A ((.bool a.isNone)) :=  Y.of (fun _ w s => by
    have e : (Op.equal t (.slice a m c) (.slice none m' c')).run P w = .ok (a.isNone) w := run_eqIn_sl 9999 h.und w
    simp [execOp, s.eval hx, s.eval hy, eqGuard, binOp, e])
theorem Y.eqst {x y : Operand} {t t' : TypeId} {a b : List UInt8} (hx : ev f x = some (str a)) (hy : ev f y = some (str b)) : YieldS P n ops ⟨some d, .binOp .eql t x y t', ty, pos, af, none⟩ f A ((.bool (decide (a = b)))) :=  Y.of (fun _ w s => by
    have h1 := s.eval hx
    have h2 := s.eval hy
    unfold str at h1 h2
    have e : (a == b) = decide (a = b) := by by_cases h : a = b <;> simp [h]
    simp [execOp, h1, h2, eqGuard, binOp, Op.stringOp, e])
theorem Y.nest {x y : Operand} {t t' : TypeId} {a b : List UInt8} (hx : ev f x = some (str a)) (hy : ev f y = some (str b)) : YieldS P n ops ⟨some d, .binOp .neq t x y t', ty, pos, af, none⟩ f A ((.bool (!decide (a = b)))) :=  Y.of (fun _ w s => by
    have h1 := s.eval hx
    have h2 := s.eval hy
    unfold str at h1 h2
    have e : (a == b) = decide (a = b) := by by_cases h : a = b <;> simp [h]
    simp [execOp, h1, h2, eqGuard, binOp, Op.stringOp, e])
theorem Y.cvi {x : Operand} {t t' : TypeId} {k k' : IntKind} {a : Int} [h0 : HasUnd P t] [h : IntTy P t' k'] (hx : ev f x = some (.int k a)) : YieldS P n ops ⟨some d, .convert t t' x, ty, pos, af, none⟩ f A ((.int k' (k'.wrap a))) := by
  obtain ⟨d0, hd⟩ := h0.und
  exact Y.of (fun _ w s => by simp [execOp, s.eval hx, convert, hd, h.und, Conv.intToInt])
theorem Y.fa {x : Operand} {t i : Nat} {b o off sz : Nat} {ag : Bool} {fs : List (Nat × Nat × Bool)} [h : StTy P t fs] (hx : ev f x = some (.pointer (some ⟨b, o, none⟩))) (hf : fs[i]? = some (off, sz, ag)) (hz : sz ≠ 0) : YieldS P n ops ⟨some d, .fieldAddr t x i, ty, pos, af, none⟩ f A ((.pointer (some ⟨b, o + off, none⟩))) := by
  obtain ⟨fields, hu, _, hfs⟩ := h.und
  obtain ⟨fld, h1, h2, h3, _⟩ := hfs i off sz ag hf
  refine Y.of (fun _ w s => ?_)
  have : (⟨b, o, none⟩ : Addr).add off = ⟨b, o + off, none⟩ := by unfold Addr.add; split <;> simp_all
  simp [execOp, s.eval hx, Instr.fieldAt, hu, h1, Instr.sureAddr, fieldPlace, h3, hz, h2, this]
theorem Y.ia {x y : Operand} {t e : TypeId} {b o m c sz bts k : Nat} {ag : Bool} {zs : List Value} {kk : IntKind} {i : Int} [h : SlTy P t e] [h2 : Ty P e ag sz zs bts] (hx : ev f x = some (.slice (some ⟨b, o, none⟩) m c)) (hy : ev f y = some (.int kk i))
    (hi : i = (k : Int)) (h1 : k < m) : YieldS P n ops ⟨some d, .indexAddr t x y, ty, pos, af, none⟩ f A (.pointer (some ⟨b, o + k * sz, none⟩)) := by
  refine Y.of (fun _ w s => ?_)
  subst hi
  have : (⟨b, o, none⟩ : Addr).add (k * sz) = ⟨b, o + k * sz, none⟩ := by unfold Addr.add; split <;> simp_all
  have h1' : (k : Int) < (m : Int) := by omega
  simp [execOp, s.eval hx, s.eval hy, Instr.indexAt, asIntOf, h.und, h2.size, h1, this]
theorem Y.iaa {x y : Operand} {t e : TypeId} {b o len sz bts k : Nat} {ag : Bool} {zs : List Value} {kk : IntKind} {i : Int} [h : ArrTy P t len e] [h2 : Ty P e ag sz zs bts] (hx : ev f x = some (.pointer (some ⟨b, o, none⟩))) (hy : ev f y = some (.int kk i))
    (hi : i = (k : Int)) (h1 : k < len) : YieldS P n ops ⟨some d, .indexAddr t x y, ty, pos, af, none⟩ f A (.pointer (some ⟨b, o + k * sz, none⟩)) := by
  refine Y.of (fun _ w s => ?_)
  subst hi
  have : (⟨b, o, none⟩ : Addr).add (k * sz) = ⟨b, o + k * sz, none⟩ := by unfold Addr.add; split <;> simp_all
  simp [execOp, s.eval hx, s.eval hy, Instr.indexAt, asIntOf, h.und, h2.size, h1, this, Instr.sureAddr]
theorem Y.ldR {x : Operand} {t : TypeId} {sz bts : Nat} {zs : List Value} {b o : Nat} {v : Value} [h : Ty P t false sz zs bts] (hx : ev f x = some (.pointer (some ⟨b, o, none⟩))) (hr : RdC A b o [v]) : YieldS P n ops ⟨some d, .load t x, ty, pos, af, none⟩ f A v :=
  Y.of' fun a w F s t => by
    have := run_loadVar1 (h := h) (hr w F t 0 v rfl)
    rw [Nat.add_zero] at this
    simp [execOp, s.eval hx, this]
theorem Y.ldRN {x : Operand} {t : TypeId} {sz bts : Nat} {zs : List Value} {b o : Nat} {cs : List Value} [h : Ty P t true sz zs bts] (hx : ev f x = some (.pointer (some ⟨b, o, none⟩))) (hr : RdC A b o cs) (hn : cs.length = sz) : YieldS P n ops ⟨some d, .load t x, ty, pos, af, none⟩ f A (.agg cs.toArray) :=
  Y.of' fun a w F s t => by
    have := run_loadVarN (h := h) hn (hr w F t)
    simp [execOp, s.eval hx, this]
theorem Y.ld {x : Operand} {t t0 : TypeId} {sz bts : Nat} {zs : List Value} {b o : Nat} {v : Value} {l : List Value} [h : Ty P t false sz zs bts] [hb : FindB b A (cl l t0)] (hx : ev f x = some (.pointer (some ⟨b, o, none⟩))) (hv : l[o]? = some v) : YieldS P n ops ⟨some d, .load t x, ty, pos, af, none⟩ f A v :=
  Y.ldR hx (RdC.find (h := hb) fun j u e => by cases j <;> simp_all)
theorem Y.ldN {x : Operand} {t t0 : TypeId} {sz bts : Nat} {zs : List Value} {b o : Nat} {cs : List Value} {l : List Value} [h : Ty P t true sz zs bts] [hb : FindB b A (cl l t0)] (hx : ev f x = some (.pointer (some ⟨b, o, none⟩))) (hv : (l.drop o).take sz = cs) (hn : cs.length = sz) : YieldS P n ops ⟨some d, .load t x, ty, pos, af, none⟩ f A (.agg cs.toArray) :=
  Y.ldRN hx (RdC.find (h := hb) fun j u e => by
    rw [← hv] at e
    by_cases hj : j < sz
    · rw [List.getElem?_take_of_lt hj, List.getElem?_drop] at e; exact e
    · rw [List.getElem?_take_eq_none (by omega)] at e; simp at e) hn
theorem Y.len {x : Operand} {t e : TypeId} {a : Option Addr} {m c : Nat} [h : SlTy P t e] (hx : ev f x = some (.slice a m c)) :
    YieldS P n ops ⟨some d, .call ⟨.builtin .len, #[x], #[t]⟩, ty, pos, af, none⟩ f A (.int .i64 m) :=
  Y.of fun a w s => by simp [execOp, resolve, invoke, s.eval hx, builtin, Builtin.len_, h.und, goInt]
theorem Y.min {x y : Operand} {t t' : TypeId} {k : IntKind} {a b : Int} (hx : ev f x = some (.int k a)) (hy : ev f y = some (.int k b)) :
    YieldS P n ops ⟨some d, .call ⟨.builtin .min, #[x, y], #[t, t']⟩, ty, pos, af, none⟩ f A (.int k (Min.min a b)) :=
  Y.of fun ac w s => by
    have : Min.min a b = if b < a then b else a := by simp only [Int.min_def]; split <;> split <;> omega
    simp [execOp, resolve, invoke, s.eval hx, s.eval hy, builtin, Builtin.min_, Builtin.min2, this]
theorem Y.max {x y : Operand} {t t' : TypeId} {k : IntKind} {a b : Int} (hx : ev f x = some (.int k a)) (hy : ev f y = some (.int k b)) :
    YieldS P n ops ⟨some d, .call ⟨.builtin .max, #[x, y], #[t, t']⟩, ty, pos, af, none⟩ f A (.int k (Max.max a b)) :=
  Y.of fun ac w s => by
    have : Max.max a b = if a < b then b else a := by simp only [Int.max_def]; split <;> split <;> omega
    simp [execOp, resolve, invoke, s.eval hx, s.eval hy, builtin, Builtin.max_, Builtin.max2, this]
end
section
variable {P : Program} {n : Nat} {ops : List Oper} {f : Env} {A : List HP} {d : Tmp} {ty : TypeId} {pos : String} {af : Array Edge}
theorem Y.bd {t : TypeId} {parts : Array (Nat × Operand)} {fs : List (Nat × Nat × Bool)} {sz bts : Nat} {ag : Bool} {zs cs : List Value} {l : List (Nat × Value)} [h1 : StTy P t fs] [h2 : Ty P t ag sz zs bts]
    (hp : partsL f parts.toList = some l) {m : Nat} (hm : zs.length = m) (hf : fitsL fs m (cellsOf l) = true) (hc : fillL fs zs (cellsOf l) = cs) : YieldS P n ops ⟨some d, .build t parts, ty, pos, af, none⟩ f A (.agg cs.toArray) := by
  subst hm
  obtain ⟨z, hz, hz2⟩ := h2.zero
  obtain ⟨fields, hu, hsz, hfs⟩ := h1.und
  refine Y.of (v := .agg cs.toArray) (fun a w s => ?_)
  have e1 : (parts.map fun p => (p.1, a.eval p.2)).toList = l := by simpa using partsL_eq s hp
  have e2 := run_places (P := P) hsz hfs w
  have e3 : z.cells = zs.toArray := by rw [← hz2]
  have e4 := fill_eq (places := fs) (pl := fun i => ((fs.map fun x => (x.1, x.2.1)).toArray)[i]?) (fun i off sz ag e => by simp [e]) l zs (fitsL_of hf)
  unfold cellsOf at hc
  rw [hc] at e4
  obtain ⟨pl⟩ := parts
  simp only [List.map_toArray] at e1
  simp only [execOp, Instr.build, Sem.run_bind, hz, Result.andThen_ok, hu, e2, e3, List.map_toArray, e1, e4]
  rfl
end
section
variable {P : Program} {n : Nat} {ops : List Oper} {f : Env} {A : List HP} {d : Tmp} {ty : TypeId} {pos : String} {af : Array Edge} {v : Value} {g : Option (Nat × Bool)}
theorem K.pick {x y z : Operand} (h : YieldS P n ops ⟨some d, .pick x y z, ty, pos, af, none⟩ f A v) : YieldS P n ops ⟨some d, .pick x y z, ty, pos, af, none⟩ f A v := h
theorem K.load {t : TypeId} {x : Operand} (h : YieldS P n ops ⟨some d, .load t x, ty, pos, af, none⟩ f A v) : YieldS P n ops ⟨some d, .load t x, ty, pos, af, none⟩ f A v := h
theorem K.ia {t : TypeId} {x y : Operand} (h : YieldS P n ops ⟨some d, .indexAddr t x y, ty, pos, af, none⟩ f A v) : YieldS P n ops ⟨some d, .indexAddr t x y, ty, pos, af, none⟩ f A v := h
end
section
variable {P : Program} {n : Nat} {ops : List Oper} {Q : Post} {f : Env} {A L : List HP} {E cs σ : List Nat} {listed : Array Bool} {held : Bool}
variable {d : Tmp} {ty : TypeId} {pos : String} {af : Array Edge}
def ordOK (ops : Array Oper) (E cs : List Nat) : List Nat → Array Bool → Bool
  | [], listed => (Region.ready .any ops listed).isEmpty
  | i :: σ, listed => bif Nat.beq i 99999 then true else (bif E.contains i then Region.ready .any ops listed == [i] else Region.free .any ops listed i && (Region.ready .any ops listed).contains i && !cs.contains i) && ordOK ops E cs σ (listed.setIfInBounds i true)
def drawS (P : Program) (n : Nat) (ops : List Oper) (E cs : List Nat) (A : List HP) (σ : List Nat) (Q : Post) (listed : Array Bool) (held : Bool) (f : Env) (L : List HP) : Prop :=
  ordOK ops.toArray E cs σ listed = true → Region.noSelect ops.toArray = true → (∀ c f L, ¬ Q (.panic c) f L) → anyS P n ops Q cs A σ.length listed held f L
theorem D.start {id : Nat} (E cs σ : List Nat) (A L1 : List HP) (hm : P.follows .mixedOrders = true) (hs : Region.noSelect ops.toArray = true) (hl : σ.length = ops.length) (ho : ordOK ops.toArray E cs σ (Array.replicate ops.length false) = true)
    (hQ : ∀ c f L, ¬ Q (.panic c) f L) (hL : Ent L (L1 ++ A)) (h : drawS P n ops E cs A σ Q (Array.replicate ops.length false) true f L1) : swp P n (.region id ops.toArray true) Q f L :=
  swp_draw cs A L1 hm hL (hl ▸ h ho hs hQ)
theorem D.y {i : Nat} {op : Op} {g : Option (Nat × Bool)} {v : Value} (hi : ops[i]? = some ⟨some d, op, ty, pos, af, g⟩) (h9 : Nat.beq i 99999 = false) (hE : E.contains i = false) (hc : (cs.all fun m => m != i && (ops.toArray[m]?).isSome && reach ops.toArray 4 i m) = true)
    (hy : YieldS P n ops ⟨some d, op, ty, pos, af, g⟩ f A v) (h : drawS P n ops E cs A σ Q (listed.setIfInBounds i true) true (upd f d v) L) : drawS P n ops E cs A (i :: σ) Q listed true f L := by
  intro ho hs hQ
  simp only [ordOK, h9, hE, cond_false, Bool.and_eq_true] at ho
  exact _root_.Go.SX.A.takeR i hi hs ho.1.1.1 ho.1.1.2 hc hy hQ (h ho.2 hs hQ)
theorem D.yp {i : Nat} {op : Op} {g : Option (Nat × Bool)} {v : Value} (hi : ops[i]? = some ⟨some d, op, ty, pos, af, g⟩) (h9 : Nat.beq i 99999 = false) (hE : E.contains i = false)
    (hy : YieldS P n ops ⟨some d, op, ty, pos, af, g⟩ f [] v) (h : drawS P n ops E cs A σ Q (listed.setIfInBounds i true) held (upd f d v) L) : drawS P n ops E cs A (i :: σ) Q listed held f L := by
  intro ho hs hQ
  simp only [ordOK, h9, hE, cond_false, Bool.and_eq_true] at ho
  exact _root_.Go.SX.A.take i hi hs ho.1.1.1 ho.1.1.2 (by simpa using ho.1.2) hy hQ (h ho.2 hs hQ)
theorem D.e {i : Nat} {o : Oper} (hi : ops[i]? = some o) (h9 : Nat.beq i 99999 = false) (hE : E.contains i = true)
    (h : opsS P n ops [o] (thenS (fun f L => drawS P n ops E cs A σ Q (listed.setIfInBounds i true) held f L) (fun _ _ _ => False)) f L) : drawS P n ops E cs A (i :: σ) Q listed held f L := by
  intro ho hs hQ
  simp only [ordOK, h9, hE, cond_true, cond_false, Bool.and_eq_true, beq_iff_eq] at ho
  exact _root_.Go.SX.A.one i ho.1 hi (fun ok F a w s t => wpList_mono (h ok F a w s t) (by rintro e a w ⟨f, L, s, t, q⟩; cases e <;> first | exact ⟨f, L, s, t, q ho.2 hs hQ⟩ | exact q.elim))
theorem D.c {i : Nat} {o : Oper} {L2 : List HP} (hi : ops[i]? = some o) (h9 : Nat.beq i 99999 = false) (hE : E.contains i = true) (hc : cs.contains i = true) (hL : A ++ L = L2)
    (h : opsS P n ops [o] (thenS (fun f L => drawS P n ops E cs A σ Q (listed.setIfInBounds i true) false f L) (fun _ _ _ => False)) f L2) : drawS P n ops E cs A (i :: σ) Q listed true f L := by
  intro ho hs hQ
  simp only [ordOK, h9, hE, cond_true, cond_false, Bool.and_eq_true, beq_iff_eq] at ho
  refine _root_.Go.SX.A.oneC i ho.1 hi hc (opsS_ent (Ent.perm (List.perm_append_comm.trans (hL ▸ List.Perm.refl _))) fun ok F a w s t => wpList_mono (h ok F a w s t) (by rintro e a w ⟨f, L, s, t, q⟩; cases e <;> first | exact ⟨f, L, s, t, q ho.2 hs hQ⟩ | exact q.elim))
theorem D.end_ (h : Q .normal f L) : drawS P n ops E cs A [] Q listed false f L := by
  intro ho hs hQ
  simp only [ordOK, List.isEmpty_iff] at ho
  exact _root_.Go.SX.A.done ho h
theorem D.endH {L2 : List HP} (hL : A ++ L = L2) (h : Q .normal f L2) : drawS P n ops E cs A [] Q listed true f L := by
  intro ho hs hQ
  simp only [ordOK, List.isEmpty_iff] at ho
  refine anyS_endP (A := A) (L2 := L2) ?_ ho h
  rw [← hL]; exact Ent.perm List.perm_append_comm
def maskA : List Bool → List HP → List HP
  | [] => fun _ => []
  | b :: m => fun l => match l with
    | [] => []
    | x :: l => match b with
      | true => x :: maskA m l
      | false => maskA m l
def maskL : List Bool → List HP → List HP
  | [] => fun l => l
  | b :: m => fun l => match l with
    | [] => []
    | x :: l => match b with
      | true => maskL m l
      | false => x :: maskL m l
theorem mask_perm : ∀ (m : List Bool) (L : List HP), L.Perm (maskL m L ++ maskA m L)
  | [], L => by simp [maskA, maskL]
  | b :: m, [] => by simp [maskA, maskL]
  | true :: m, x :: L => by simp only [maskA, maskL]; exact ((mask_perm m L).cons x).trans List.perm_middle.symm
  | false :: m, x :: L => by simp only [maskA, maskL]; exact (mask_perm m L).cons x
theorem D.go {id : Nat} (mask : List Bool) (E cs σ : List Nat) {L1 : List HP} (hm : P.follows .mixedOrders = true) (hs : Region.noSelect ops.toArray = true) (hl : σ.length = ops.length) (ho : ordOK ops.toArray E cs σ (Array.replicate ops.length false) = true)
    (hQ : ∀ c f L, ¬ Q (.panic c) f L) (hA : maskA mask L = A) (hL : maskL mask L = L1) (h : drawS P n ops E cs A σ Q (Array.replicate ops.length false) true f L1) : swp P n (.region id ops.toArray true) Q f L :=
  D.start E cs σ A L1 hm hs hl ho hQ (by rw [← hA, ← hL]; exact Ent.perm (mask_perm mask L)) h
theorem D.two (i j : Nat) (σ1 σ2 : List Nat) {τ : List Nat} {o o' : Oper} (hr : Region.ready .any ops.toArray listed = [i, j]) (hi : ops[i]? = some o) (hj : ops[j]? = some o') (hl1 : σ1.length = τ.length) (hl2 : σ2.length = τ.length)
    (ho1 : ordOK ops.toArray E cs σ1 (listed.setIfInBounds i true) = true) (ho2 : ordOK ops.toArray E cs σ2 (listed.setIfInBounds j true) = true)
    (h1 : opsS P n ops [o] (thenS (fun f L => drawS P n ops E cs A σ1 Q (listed.setIfInBounds i true) held f L) (fun _ _ _ => False)) f L)
    (h2 : opsS P n ops [o'] (thenS (fun f L => drawS P n ops E cs A σ2 Q (listed.setIfInBounds j true) held f L) (fun _ _ _ => False)) f L) : drawS P n ops E cs A (99999 :: τ) Q listed held f L := by
  intro _ hs hQ
  exact _root_.Go.SX.A.two i j hr hi hj (fun ok F a w s t => wpList_mono (h1 ok F a w s t) (by rintro e a w ⟨f, L, s, t, q⟩; cases e <;> first | exact ⟨f, L, s, t, hl1 ▸ q ho1 hs hQ⟩ | exact q.elim))
    (fun ok F a w s t => wpList_mono (h2 ok F a w s t) (by rintro e a w ⟨f, L, s, t, q⟩; cases e <;> first | exact ⟨f, L, s, t, hl2 ▸ q ho2 hs hQ⟩ | exact q.elim))
theorem D.ent {L' : List HP} (h : Ent L L') (H : drawS P n ops E cs A σ Q listed held f L') : drawS P n ops E cs A σ Q listed held f L := fun ho hs hQ => anyS_ent h (H ho hs hQ)
end
class NoPanic (Q : Post) : Prop where
  no : ∀ c f L, ¬ Q (.panic c) f L
instance {K : Env → List HP → Prop} {Q : Post} [h : NoPanic Q] : NoPanic (thenS K Q) := ⟨fun c f L q => h.no c f L q⟩
instance {i : Nat} {Q : Post} [h : NoPanic Q] : NoPanic (blockS i Q) := ⟨fun c f L q => h.no c f L q⟩
instance {P : Program} {n : Nat} {rs : List ResultVar} {R : Value → List HP → Prop} : NoPanic (retS P n rs R) := ⟨fun c f L q => q⟩
end Go.SX
namespace Go.SX
open Go
def RdS (L : List HP) (a : Option Addr) (m sz : Nat) (cs : List Value) : Prop := cs.length = m * sz ∧ (m = 0 ∨ ∃ b o, a = some ⟨b, o, none⟩ ∧ RdC L b o cs)
theorem RdS.sub {L0 L : List HP} {a : Option Addr} {m sz : Nat} {cs : List Value} (h : RdS L0 a m sz cs) [s : Sub L0 L] : RdS L a m sz cs :=
  ⟨h.1, h.2.imp id fun ⟨b, o, e, r⟩ => ⟨b, o, e, r.sub⟩⟩
theorem RdS.ent {L0 L : List HP} {a : Option Addr} {m sz : Nat} {cs : List Value} (h : RdS L0 a m sz cs) (s : Ent L L0) : RdS L a m sz cs :=
  ⟨h.1, h.2.imp id fun ⟨b, o, e, r⟩ => ⟨b, o, e, r.ent s⟩⟩
theorem SrcS.rd {P : Program} {L : List HP} {sz : Nat} {tx e' : TypeId} [h : SlTy P tx e'] {a : Option Addr} {m c : Nat} {cs : List Value} (hr : RdS L a m sz cs) (h1 : cs.all (·.oneCell') = true) : SrcS P L sz tx (.slice a m c) m cs := by
  obtain ⟨hl, hm⟩ := hr
  rcases hm with rfl | ⟨b, o, rfl, hc⟩
  · have : cs = [] := List.eq_nil_of_length_eq_zero (by simpa using hl)
    subst this
    cases a with
    | none => exact SrcS.nil
    | some ad => exact ⟨fun w F H => Src.ofSlice w h.raw ad 0 c [] (by simp) (fun j u e => by simp at e) (fun u hu => by cases hu)⟩
  · exact SrcS.sl hc hl h1
theorem flat_get {α : Type} {g : α → List Value} {sz : Nat} (hg : ∀ x, (g x).length = sz) : ∀ (l : List α) (k j : Nat) (x : α) (v : Value), l[k]? = some x → (g x)[j]? = some v → (l.flatMap g)[k * sz + j]? = some v
  | [], k, j, x, v, h, _ => by simp at h
  | y :: l, 0, j, x, v, h, hv => by
    simp at h; subst h
    have : j < (g y).length := (List.getElem?_eq_some_iff.1 hv).1
    simp [List.getElem?_append_left this, hv]
  | y :: l, k + 1, j, x, v, h, hv => by
    have ih := flat_get hg l k j x v (by simpa using h) hv
    rw [List.flatMap_cons, List.getElem?_append_right (by rw [hg]; rw [Nat.succ_mul]; omega), hg]
    rw [show (k + 1) * sz + j - sz = k * sz + j from by rw [Nat.succ_mul]; omega]
    exact ih
theorem RdC.elem {α : Type} {g : α → List Value} {sz : Nat} (hg : ∀ x, (g x).length = sz) {L : List HP} {b o : Nat} {l : List α} {k : Nat} {x : α} (h : RdC L b o (l.flatMap g)) (hk : l[k]? = some x) : RdC L b (o + k * sz) (g x) :=
  h.part fun j v e => flat_get hg l k j x v hk e
theorem RdS.elem {α : Type} {g : α → List Value} {sz : Nat} (hg : ∀ x, (g x).length = sz) {L : List HP} {a : Option Addr} {m : Nat} {l : List α} {k : Nat} {x : α} (h : RdS L a m sz (l.flatMap g)) (hk : l[k]? = some x) (hm : m = l.length) : ∃ b o, a = some ⟨b, o, none⟩ ∧ RdC L b (o + k * sz) (g x) := by
  have hlt : k < l.length := (List.getElem?_eq_some_iff.1 hk).1
  rcases h.2 with h0 | ⟨b, o, e, r⟩
  · omega
  · exact ⟨b, o, e, r.elem hg hk⟩
theorem RdC.at {L : List HP} {b o j : Nat} {v : Value} {cs : List Value} (h : RdC L b o cs) (hj : cs[j]? = some v) : RdC L b (o + j) [v] := h.part fun i u e => by
  cases i with
  | zero => simp at e; subst e; simpa using hj
  | succ i => simp at e
theorem RdC.ofS {L : List HP} {t sz m c b : Nat} {cs : List Value} {L' : HP → List HP} [h : UpdS (some ⟨b, 0, none⟩) L t sz m c cs L'] : RdC L b 0 cs := by
  obtain ⟨R, p, _⟩ := h.at_
  exact RdC.slO ⟨R, Ent.perm p⟩
theorem RdS.ofS {a : Option Addr} {L : List HP} {t sz m c : Nat} {cs : List Value} {L' : HP → List HP} [h : UpdS a L t sz m c cs L'] (hl : cs.length = m * sz) (ha : m = 0 ∨ ∃ b, a = some ⟨b, 0, none⟩) : RdS L a m sz cs :=
  ⟨hl, ha.imp id fun ⟨b, e⟩ => ⟨b, 0, e, by subst e; exact RdC.ofS (h := h)⟩⟩
def B (x : UInt8) : Value := .int .u8 x.toNat
def roM (M : Nat → Option Obj) : HP := fun _ h => ∀ b o, M b = some o → h b = some (false, o)
def leM (M M' : Nat → Option Obj) : Prop := ∀ b o, M b = some o → M' b = some o
theorem leM.refl (M : Nat → Option Obj) : leM M M := fun _ _ h => h
theorem leM.trans {M M' M'' : Nat → Option Obj} (h : leM M M') (h' : leM M' M'') : leM M M'' := fun b o e => h' b o (h b o e)
class HasM (M : Nat → Option Obj) (L : List HP) : Prop where
  at_ : ∀ w F, St w (L ++ F) → ∀ b o, M b = some o → w.heap[b]? = some o
theorem St.roM_read {w : World} {M : Nat → Option Obj} {L : List HP} (H : St w (roM M :: L)) {b : Nat} {o : Obj} (hb : M b = some o) : w.heap[b]? = some o := by
  obtain ⟨h, f, a⟩ := H.read_cons; exact f b _ _ (a b o hb)
instance HasM.here {M : Nat → Option Obj} {L : List HP} : HasM M (roM M :: L) := ⟨fun _ _ H _ _ e => St.roM_read H e⟩
instance (priority := low) HasM.there {M : Nat → Option Obj} {A : HP} {L : List HP} [h : HasM M L] : HasM M (A :: L) := ⟨fun w F H => h.at_ w F H.tail⟩
theorem Ent.roM_dup {M : Nat → Option Obj} {L : List HP} : Ent (roM M :: L) (roM M :: roM M :: L) := fun w F H => by
  refine St.of_sep (L := roM M :: (L ++ F)) (fun hh H => ?_) H
  obtain ⟨h1, h2, ok, rfl, a, l⟩ := H
  refine ⟨fun k => (M k).map (false, ·), h1.add h2, ?_, ?_, fun b o e => by simp [e], h1, h2, ok, rfl, a, l⟩
  · intro k p ob q o2 e1 e2
    cases hm : M k with
    | none => simp [hm] at e1
    | some o =>
      have := a k o hm
      simp [hm] at e1
      simp [Hp.add, this] at e2
      exact ⟨e1.1.symm ▸ rfl, e2.1.symm ▸ rfl, e1.2 ▸ e2.2 ▸ rfl⟩
  · funext k
    simp only [Hp.add]
    cases hm : M k with
    | none => simp
    | some o => simp [a k o hm]
theorem Ent.roM_join {M M' : Nat → Option Obj} {L : List HP} : Ent (roM M :: roM M' :: L) (exH (fun N => allH [pureH (leM M N ∧ leM M' N), roM N]) :: L) := fun w F H => by
  refine St.of_sep (L := roM M :: roM M' :: (L ++ F)) (fun hh H => ?_) H
  obtain ⟨h1, h2, ok, rfl, a, h3, h4, ok', rfl, a', l⟩ := H
  have e12 := Hp.ok_left' ok
  refine ⟨h1.add h3, h4, Hp.ok_add (Hp.ok_right' ok' ok) ok', by rw [Hp.add_assoc], ⟨fun b => (M b).or (M' b), ?_⟩, l⟩
  refine ⟨(fun _ => none : Nat → Option (Bool × Obj)), h1.add h3, fun b p o q o' e => by simp at e, by funext b; simp [Hp.add], ⟨?_, ?_⟩, h1.add h3, (fun _ => none : Nat → Option (Bool × Obj)), fun b p o q o' _ e => by simp at e, by funext b; simp [Hp.add], ?_, trivial⟩
  · intro b o e; simp [e]
  · intro b o e
    show (M b).or (M' b) = some o
    cases hm : M b with
    | none => simpa using e
    | some o1 =>
      have := (e12 b _ _ _ _ (a b o1 hm) (a' b o e)).2.2
      simp [this]
  · intro b o e
    simp only [Hp.add]
    cases hm : M b with
    | none =>
      simp [hm] at e
      cases h1b : h1 b with
      | none => simp [a' b o e]
      | some x =>
        obtain ⟨p, o1⟩ := x
        have := e12 b _ _ _ _ h1b (a' b o e)
        simp [this.1, this.2.2]
    | some o1 => simp [hm] at e; subst e; simp [a b o1 hm]
theorem Ent.nilM {L L' : List HP} (h : Ent L L') : Ent L (roM (fun _ => none) :: L') := h.trans fun w F H =>
  St.of_sep (L := L' ++ F) (fun hh h => ⟨(fun _ => none : Nat → Option (Bool × Obj)), hh, fun b p o q o' e => by simp at e, by funext b; simp [Hp.add], fun b o e => by simp at e, h⟩) H
def oneM (b : Nat) (o : Obj) : Nat → Option Obj := fun k => if k = b then some o else none
theorem Ent.roM_one {b : Nat} {o : Obj} {L : List HP} : Ent (pt b o :: L) (roM (oneM b o) :: L) := Ent.shed.trans fun w F H =>
  St.of_sep (L := ro b o :: (L ++ F)) (fun hh ⟨h1, h2, ok, e, a, l⟩ => ⟨h1, h2, ok, e, fun k o' e' => by
    unfold oneM at e'; split at e'
    · rename_i hk; subst hk; simp at e'; subst e'; exact a
    · simp at e', l⟩) H
def SlM (M : Nat → Option Obj) (a : Option Addr) (m sz : Nat) (cs : List Value) : Prop :=
  cs.length = m * sz ∧ (m = 0 ∨ ∃ b o l t fz, a = some ⟨b, o, none⟩ ∧ M b = some (.cells l t fz) ∧ ∀ j v, cs[j]? = some v → l[o + j]? = some v)
theorem SlM.mono {M M' : Nat → Option Obj} {a : Option Addr} {m sz : Nat} {cs : List Value} (h : SlM M a m sz cs) (hl : leM M M') : SlM M' a m sz cs :=
  ⟨h.1, h.2.imp id fun ⟨b, o, l, t, fz, e1, e2, e3⟩ => ⟨b, o, l, t, fz, e1, hl _ _ e2, e3⟩⟩
theorem SlM.rd {M : Nat → Option Obj} {L : List HP} {a : Option Addr} {m sz : Nat} {cs : List Value} (h : SlM M a m sz cs) [hm : HasM M L] : RdS L a m sz cs :=
  ⟨h.1, h.2.imp id fun ⟨b, o, l, t, fz, e1, e2, e3⟩ => ⟨b, o, e1, fun w F H j v e => by
    have := hm.at_ w F H b _ e2
    simp [World.cell?, this, e3 j v e]⟩⟩
theorem SlM.nil {M : Nat → Option Obj} {a : Option Addr} {sz : Nat} : SlM M a 0 sz [] := ⟨by simp, .inl rfl⟩
theorem Ent.slM {t sz m c : Nat} {a : Option Addr} {cs : List Value} {L : List HP} : Ent (slO t sz a m c cs :: L) (exH (fun M => allH [pureH (SlM M a m sz cs), roM M]) :: L) := fun w F H => by
  obtain ⟨hl, hc⟩ := St.slO_open H
  rcases hc with ⟨rfl, rfl, rfl, rfl, hs⟩ | ⟨b, rest, rfl, hmc, hr, hs⟩
  · refine Ent.shut_ex (P := fun M => allH [pureH (SlM M none 0 sz []), roM M]) (fun _ => none) w F ?_
    refine Ent.shut_all (L := [pureH (SlM (fun _ => none) none 0 sz []), roM (fun _ => none)]) w F ?_
    refine Ent.shut_pure (M := roM (fun _ => none) :: L) SlM.nil w F ?_
    exact St.of_sep (L := L ++ F) (fun hh h => ⟨(fun _ => none : Nat → Option (Bool × Obj)), hh, fun b p o q o' e => by simp at e, by funext b; simp [Hp.add], fun b o e => by simp at e, h⟩) hs
  · have h1 := Ent.roM_one (L := L) w F hs
    refine Ent.shut_ex (P := fun M => allH [pureH (SlM M (some ⟨b, 0, none⟩) m sz cs), roM M]) (oneM b (cl (cs ++ rest) t)) w F ?_
    refine Ent.shut_all (L := [pureH (SlM (oneM b (cl (cs ++ rest) t)) (some ⟨b, 0, none⟩) m sz cs), roM (oneM b (cl (cs ++ rest) t))]) w F ?_
    refine Ent.shut_pure (M := roM (oneM b (cl (cs ++ rest) t)) :: L) ?_ w F h1
    refine ⟨hl, .inr ⟨b, 0, (cs ++ rest).toArray, t, (0, 0), rfl, by simp [oneM, cl], fun j v e => ?_⟩⟩
    have hj : j < cs.length := (List.getElem?_eq_some_iff.1 e).1
    simp [List.getElem?_append_left hj, e]
class PickM (L : List HP) (M : outParam (Nat → Option Obj)) (L0 : outParam (List HP)) : Prop where
  ent : Ent L (roM M :: L0)
instance PickM.here {M : Nat → Option Obj} {L : List HP} : PickM (roM M :: L) M L := ⟨Ent.refl _⟩
instance (priority := low) PickM.there {M : Nat → Option Obj} {A : HP} {L L0 : List HP} [h : PickM L M L0] : PickM (A :: L) M (A :: L0) := ⟨(h.ent.cons).trans (Ent.perm (.swap _ _ _))⟩
theorem Ent.absorb {t sz m c : Nat} {a : Option Addr} {cs : List Value} {L L0 : List HP} {M : Nat → Option Obj} [h : PickM L M L0] : Ent (SX.slO t sz a m c cs :: L) (exH (fun M' => allH [pureH (leM M M' ∧ SlM M' a m sz cs), roM M']) :: L0) := by
  refine (h.ent.cons).trans ?_
  refine Ent.slM.trans ?_
  refine Ent.ex fun M1 => Ent.open_all.trans (Ent.pure fun hs => ?_)
  refine Ent.roM_join.trans (Ent.ex fun N => Ent.open_all.trans (Ent.pure fun hl => ?_))
  refine Ent.trans ?_ (Ent.shut_ex N)
  refine Ent.trans ?_ Ent.shut_all
  exact Ent.shut_pure ⟨hl.2, hs.mono hl.1⟩
theorem opsS_absorb {P : Program} {n : Nat} {ops rest : List Oper} {Q : Post} {f : Env} {t sz m c : Nat} {a : Option Addr} {cs : List Value} {L L0 : List HP} {M : Nat → Option Obj} [h : PickM L M L0]
    (hk : ∀ M', leM M M' → SlM M' a m sz cs → opsS P n ops rest Q f (roM M' :: L0)) : opsS P n ops rest Q f (SX.slO t sz a m c cs :: L) := by
  refine opsS_ent Ent.absorb (opsS_ex fun M' => opsS_all (opsS_pure fun h => hk M' h.1 h.2))
end Go.SX
namespace Go.SX
open Go
section
variable {P : Program} {n : Nat} {ops rest : List Oper} {Q : Post} {f : Env} {A L : List HP} {E cs σ : List Nat} {listed : Array Bool} {held : Bool}
variable {d : Tmp} {ty : TypeId} {pos : String} {af : Array Edge}
theorem anyS_split {k : Nat} (dg : Nat) {b : Bool} (hd : f dg = some (.bool b)) (ht : b = true → anyS P n ops Q cs A k listed held (upd f dg (.bool true)) L) (hf : b = false → anyS P n ops Q cs A k listed held (upd f dg (.bool false)) L) : anyS P n ops Q cs A k listed held f L := by
  have key : ∀ c, b = c → anyS P n ops Q cs A k listed held (upd f dg (.bool c)) L → anyS P n ops Q cs A k listed held f L := fun c e h ok F a w s =>
    h ok F a w (s.weaken fun i v hv => by
      simp only [upd] at hv
      cases hb : Nat.beq i dg with
      | false => rw [hb] at hv; exact hv
      | true => rw [hb] at hv; rw [Nat.eq_of_beq_eq_true hb, hd, e]; exact hv)
  cases b
  · exact key false rfl (hf rfl)
  · exact key true rfl (ht rfl)
theorem D.gsp {i : Nat} {dd : Option Tmp} {op : Op} {g : Nat × Bool} {dg : Nat} {b : Bool} (hi : ops[i]? = some ⟨dd, op, ty, pos, af, some g⟩) (h0 : (ops[g.1]?).bind (·.dst) = some dg) (hd : f dg = some (.bool b))
    (ht : b = true → drawS P n ops E cs A (i :: σ) Q listed held (upd f dg (.bool true)) L) (hf : b = false → drawS P n ops E cs A (i :: σ) Q listed held (upd f dg (.bool false)) L) : drawS P n ops E cs A (i :: σ) Q listed held f L :=
  fun ho hs hQ => anyS_split dg hd (fun e => ht e ho hs hQ) (fun e => hf e ho hs hQ)
theorem D.gT {i : Nat} {dd : Option Tmp} {op : Op} {g : Nat × Bool} {dg : Nat} {b : Bool} (hi : ops[i]? = some ⟨dd, op, ty, pos, af, some g⟩) (h0 : (ops[g.1]?).bind (·.dst) = some dg) (hd : f dg = some (.bool b)) (hb : b = true)
    (ht : drawS P n ops E cs A (i :: σ) Q listed held (upd f dg (.bool true)) L) : drawS P n ops E cs A (i :: σ) Q listed held f L := D.gsp hi h0 hd (fun _ => ht) (fun h => by rw [hb] at h; cases h)
theorem Y.sl3 {x lo hi mx : Operand} {t e : TypeId} {a : Option Addr} {m c sz bts : Nat} {ag : Bool} {zs : List Value} {l h mm : Nat} {i j k : Int} {kl kh km : IntKind} [hs : SlTy P t e] [h2 : Ty P e ag sz zs bts] (hx : ev f x = some (.slice a m c))
    (hl : ev f lo = some (.int kl i)) (hh : ev f hi = some (.int kh j)) (hm : ev f mx = some (.int km k)) (el : i = (l : Int)) (eh : j = (h : Int)) (em : k = (mm : Int)) (h1 : l ≤ h) (h3 : h ≤ mm) (h4 : mm ≤ c) :
    YieldS P n ops ⟨some d, .slice t x (some lo) (some hi) (some mx), ty, pos, af, none⟩ f A (.slice (if mm = l then a else a.map (·.add (l * sz))) (h - l) (mm - l)) := by
  refine Y.of (fun ac w s => ?_)
  subst el eh em
  have e1 : (l : Int) ≤ (h : Int) := by omega
  have e2 : (h : Int) ≤ (mm : Int) := by omega
  have e3 : (mm : Int) ≤ (c : Int) := by omega
  simp [execOp, s.eval hx, s.eval hl, s.eval hh, s.eval hm, Instr.sliceAt, hs.und, Instr.slice, Instr.sliceBounds, h2.size, Instr.sliceBound, asIntOf, h1, h3, h4]
theorem Y.slT {x hi : Operand} {t e : TypeId} {a : Option Addr} {m c sz bts h : Nat} {ag : Bool} {zs : List Value} {j : Int} {kh : IntKind} [hs : SlTy P t e] [h2 : Ty P e ag sz zs bts] (hx : ev f x = some (.slice a m c))
    (hh : ev f hi = some (.int kh j)) (eh : j = (h : Int)) (h3 : h ≤ c) : YieldS P n ops ⟨some d, .slice t x none (some hi) none, ty, pos, af, none⟩ f A (.slice a h c) := by
  refine Y.of (fun ac w s => ?_)
  subst eh
  have e1 : ∀ ad : Addr, ad.add 0 = ad := fun _ => rfl
  cases a <;> simp [execOp, s.eval hx, s.eval hh, Instr.sliceAt, hs.und, Instr.slice, Instr.sliceBounds, h2.size, Instr.sliceBound, asIntOf, h3, e1]
theorem Y.slF {x lo : Operand} {t e : TypeId} {b o m c sz bts l : Nat} {ag : Bool} {zs : List Value} {i : Int} {kl : IntKind} [hs : SlTy P t e] [h2 : Ty P e ag sz zs bts] (hx : ev f x = some (.slice (some ⟨b, o, none⟩) m c))
    (hl : ev f lo = some (.int kl i)) (el : i = (l : Int)) (h1 : l ≤ m) : YieldS P n ops ⟨some d, .slice t x (some lo) none none, ty, pos, af, none⟩ f A (.slice (some ⟨b, if c = l then o else o + l * sz, none⟩) (m - l) (c - l)) := by
  refine Y.of (fun ac w s => ?_)
  subst el
  have e2 : (⟨b, o, none⟩ : Addr).add (l * sz) = ⟨b, o + l * sz, none⟩ := by unfold Addr.add; split <;> simp_all
  have e1 : (l : Int) ≤ (m : Int) := by omega
  by_cases hc : c = l <;> simp [execOp, s.eval hx, s.eval hl, Instr.sliceAt, hs.und, Instr.slice, Instr.sliceBounds, h2.size, Instr.sliceBound, asIntOf, h1, hc, e2]
theorem Y.slFn {x lo : Operand} {t e : TypeId} {c sz bts : Nat} {ag : Bool} {zs : List Value} {i : Int} {kl : IntKind} [hs : SlTy P t e] [h2 : Ty P e ag sz zs bts] (hx : ev f x = some (.slice none 0 c))
    (hl : ev f lo = some (.int kl i)) (el : i = 0) : YieldS P n ops ⟨some d, .slice t x (some lo) none none, ty, pos, af, none⟩ f A (.slice none 0 c) := by
  refine Y.of (fun ac w s => ?_)
  subst el
  by_cases hc : c = 0 <;> simp [execOp, s.eval hx, s.eval hl, Instr.sliceAt, hs.und, Instr.slice, Instr.sliceBounds, h2.size, Instr.sliceBound, asIntOf, hc]
theorem Y.slB {x lo hi : Operand} {t e : TypeId} {b o m c sz bts l h : Nat} {ag : Bool} {zs : List Value} {i j : Int} {kl kh : IntKind} [hs : SlTy P t e] [h2 : Ty P e ag sz zs bts] (hx : ev f x = some (.slice (some ⟨b, o, none⟩) m c))
    (hl : ev f lo = some (.int kl i)) (hh : ev f hi = some (.int kh j)) (el : i = (l : Int)) (eh : j = (h : Int)) (h1 : l ≤ h) (h3 : h ≤ c) :
    YieldS P n ops ⟨some d, .slice t x (some lo) (some hi) none, ty, pos, af, none⟩ f A (.slice (some ⟨b, if c = l then o else o + l * sz, none⟩) (h - l) (c - l)) := by
  refine Y.of (fun ac w s => ?_)
  subst el eh
  have e2 : (⟨b, o, none⟩ : Addr).add (l * sz) = ⟨b, o + l * sz, none⟩ := by unfold Addr.add; split <;> simp_all
  have e1 : (l : Int) ≤ (h : Int) := by omega
  have e3 : (h : Int) ≤ (c : Int) := by omega
  by_cases hc : c = l
  · subst hc
    obtain rfl : h = c := by omega
    simp [execOp, s.eval hx, s.eval hl, s.eval hh, Instr.sliceAt, hs.und, Instr.slice, Instr.sliceBounds, h2.size, Instr.sliceBound, asIntOf]
  · simp [execOp, s.eval hx, s.eval hl, s.eval hh, Instr.sliceAt, hs.und, Instr.slice, Instr.sliceBounds, h2.size, Instr.sliceBound, asIntOf, h1, h3, hc, e2]
theorem RdS.from {b o m c l sz : Nat} {cs : List Value} (hr : RdC L b o cs) (hl : cs.length = m * sz) (h1 : l ≤ m) (h2 : m ≤ c) : RdS L (some ⟨b, if c = l then o else o + l * sz, none⟩) (m - l) sz (cs.drop (l * sz)) := by
  refine ⟨by rw [List.length_drop, hl, Nat.sub_mul], ?_⟩
  by_cases hc : c = l
  · exact .inl (by omega)
  · rw [if_neg hc]
    exact .inr ⟨b, _, rfl, hr.part fun j v e => by rwa [List.getElem?_drop] at e⟩
theorem Y.b2s {x : Operand} {src dst e : TypeId} {a : Option Addr} {c : Nat} {bs : List UInt8} [h1 : SlTy P src e] [h2 : IntTy P e .u8] [h3 : StrTy P dst] (hx : ev f x = some (.slice a bs.length c)) (hr : RdS A a bs.length 1 (bs.map B)) :
    YieldS P n ops ⟨some d, .convert src dst x, ty, pos, af, none⟩ f A (str bs) := by
  refine Y.of' fun ac w F s t => ?_
  have key : (convert src dst (.slice a bs.length c)).run P w = .ok (str bs) w := by
    cases a with
    | none =>
      have h0 : bs.length = 0 := by
        rcases hr.2 with h | ⟨_, _, h, _⟩
        · exact h
        · cases h
      have : bs = [] := List.eq_nil_of_length_eq_zero h0
      subst this
      exact run_convert_bytes_nil w src e h1.raw h2.raw _ _ dst h3.raw
    | some ad =>
      refine run_convert_bytes_back w src dst e ad c bs h1.raw h2.raw h3.raw (fun j hj => ?_)
      rcases hr.2 with h | ⟨b, o, he, hc⟩
      · omega
      · cases he
        have := hc w F t j (B bs[j]) (by simp [hj])
        have e2 : (⟨b, o, none⟩ : Addr).add j = ⟨b, o + j, none⟩ := by unfold Addr.add; split <;> simp_all
        rw [e2]; exact this
  simp [execOp, s.eval hx, key]
end
end Go.SX
