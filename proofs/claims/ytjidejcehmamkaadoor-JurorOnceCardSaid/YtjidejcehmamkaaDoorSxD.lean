/- Separation logic over the model's heap: parts of a heap, lists of assertions, states. No condition. -/
import Derived.WalkKit
set_option linter.unusedVariables false
set_option linter.unusedSimpArgs false
namespace Go.SX
open Go

def Hp := Nat → Option (Bool × Obj)
def Hp.ok (h k : Hp) : Prop := ∀ b p o q o', h b = some (p, o) → k b = some (q, o') → p = false ∧ q = false ∧ o = o'
def Hp.add (h k : Hp) : Hp := fun b => (h b).or (k b)
def Hp.fits (h : Hp) (w : World) : Prop := ∀ b p o, h b = some (p, o) → w.heap[b]? = some o
abbrev Ext := Os × Array (Nat × ByteArray)
def ext (w : World) : Ext := (w.os, w.output)
abbrev HP := Ext → Hp → Prop
variable {g : Ext}

theorem Hp.ok_symm {h k : Hp} (H : h.ok k) : k.ok h := fun b p o q o' e1 e2 => by
  obtain ⟨a, b, c⟩ := H b q o' p o e2 e1; exact ⟨b, a, c.symm⟩
theorem Hp.add_comm {h k : Hp} (H : h.ok k) : h.add k = k.add h := by
  funext b
  simp only [Hp.add]
  cases e1 : h b with
  | none => cases e2 : k b <;> rfl
  | some x =>
    cases e2 : k b with
    | none => rfl
    | some y =>
      obtain ⟨p, o⟩ := x; obtain ⟨q, o'⟩ := y
      obtain ⟨rfl, rfl, rfl⟩ := H b p o q o' e1 e2; rfl
theorem Hp.add_assoc (h k l : Hp) : (h.add k).add l = h.add (k.add l) := by
  funext b; simp only [Hp.add]; cases h b <;> rfl
theorem Hp.ok_add_left {h k l : Hp} (H : (h.add k).ok l) : h.ok l := fun b p o q o' e1 e2 =>
  H b p o q o' (by simp [Hp.add, e1]) e2
theorem Hp.ok_add_right {h k l : Hp} (hk : h.ok k) (H : (h.add k).ok l) : k.ok l := fun b p o q o' e1 e2 => by
  refine H b p o q o' ?_ e2
  rw [Hp.add_comm hk]; simp [Hp.add, e1]
theorem Hp.ok_add {h k l : Hp} (H1 : h.ok l) (H2 : k.ok l) : (h.add k).ok l := fun b p o q o' e1 e2 => by
  simp only [Hp.add] at e1
  cases e : h b with
  | none => rw [e] at e1; exact H2 b p o q o' e1 e2
  | some x => rw [e] at e1; exact H1 b p o q o' (by rw [e]; exact e1) e2
theorem Hp.ok_add' {h k l : Hp} (H1 : h.ok k) (H2 : h.ok l) : h.ok (k.add l) := Hp.ok_symm (Hp.ok_add (Hp.ok_symm H1) (Hp.ok_symm H2))
theorem Hp.ok_left' {h k l : Hp} (H : h.ok (k.add l)) : h.ok k := Hp.ok_symm (Hp.ok_add_left (Hp.ok_symm H))
theorem Hp.ok_right' {h k l : Hp} (hk : k.ok l) (H : h.ok (k.add l)) : h.ok l := Hp.ok_symm (Hp.ok_add_right hk (Hp.ok_symm H))

theorem Hp.fits_left {h k : Hp} {w : World} (H : (h.add k).fits w) : h.fits w := fun b p o e => H b p o (by simp [Hp.add, e])
theorem Hp.fits_right {h k : Hp} {w : World} (hk : h.ok k) (H : (h.add k).fits w) : k.fits w := Hp.fits_left (Hp.add_comm hk ▸ H)
theorem Hp.fits_add {h k : Hp} {w : World} (h1 : h.fits w) (h2 : k.fits w) : (h.add k).fits w := fun b p o e => by
  simp only [Hp.add] at e
  cases e1 : h b with
  | none => rw [e1] at e; exact h2 b p o e
  | some x => rw [e1] at e; exact h1 b p o (by rw [e1]; exact e)

def sepH (g : Ext) : List HP → Hp → Prop
  | [] => fun _ => True
  | P :: L => fun h => ∃ h1 h2, h1.ok h2 ∧ h = h1.add h2 ∧ P g h1 ∧ sepH g L h2

theorem sepH_swap {A B : HP} {L : List HP} {h : Hp} (H : sepH g (A :: B :: L) h) : sepH g (B :: A :: L) h := by
  obtain ⟨h1, h2, o, rfl, a, h3, h4, o', rfl, b, l⟩ := H
  refine ⟨h3, h1.add h4, ?_, ?_, b, h1, h4, Hp.ok_right' o' o, rfl, a, l⟩
  · exact Hp.ok_add' (Hp.ok_symm (Hp.ok_left' o)) o'
  · rw [← Hp.add_assoc, ← Hp.add_assoc, Hp.add_comm (Hp.ok_left' o)]
theorem sepH_cons_mono {A : HP} {L L' : List HP} (H : ∀ h, sepH g L h → sepH g L' h) {h : Hp} (h0 : sepH g (A :: L) h) : sepH g (A :: L') h := by
  obtain ⟨h1, h2, o, rfl, a, l⟩ := h0; exact ⟨h1, h2, o, rfl, a, H _ l⟩
theorem sepH_perm {L L' : List HP} (p : L.Perm L') : ∀ {h : Hp}, sepH g L h → sepH g L' h := by
  induction p with
  | nil => exact fun H => H
  | cons x _ ih => exact fun H => sepH_cons_mono (fun _ => ih) H
  | swap x y l => exact fun H => sepH_swap H
  | trans _ _ ih1 ih2 => exact fun H => ih2 (ih1 H)
theorem sepH_tail {A : HP} {L : List HP} {h : Hp} (H : sepH g (A :: L) h) : ∃ k, sepH g L k ∧ ∀ w, h.fits w → k.fits w := by
  obtain ⟨h1, h2, o, rfl, _, l⟩ := H; exact ⟨h2, l, fun w => Hp.fits_right o⟩
theorem sepH_append {L M : List HP} : ∀ {h : Hp}, sepH g (L ++ M) h ↔ ∃ h1 h2, h1.ok h2 ∧ h = h1.add h2 ∧ sepH g L h1 ∧ sepH g M h2 := by
  induction L with
  | nil =>
    intro h
    constructor
    · intro H
      refine ⟨fun _ => none, h, ?_, ?_, trivial, H⟩
      · intro b p o q o' e; simp at e
      · funext b; simp [Hp.add]
    · rintro ⟨h1, h2, o, rfl, _, H⟩
      cases M with
      | nil => trivial
      | cons A M =>
        obtain ⟨h3, h4, o', rfl, a, m⟩ := H
        refine ⟨h3, h4.add h1, ?_, ?_, a, ?_⟩
        · exact Hp.ok_add' o' (Hp.ok_symm (Hp.ok_left' o))
        · rw [Hp.add_comm o, Hp.add_assoc]
        · -- what is left over is dropped
          revert m
          have : ∀ (M : List HP) (k l : Hp), k.ok l → sepH g M k → sepH g M (k.add l) := by
            intro M
            induction M with
            | nil => intros; trivial
            | cons B M ih =>
              rintro k l ok ⟨k1, k2, o2, rfl, b, m⟩
              exact ⟨k1, k2.add l, Hp.ok_add' o2 (Hp.ok_add_left ok), by rw [Hp.add_assoc], b, ih _ _ (Hp.ok_add_right o2 ok) m⟩
          intro m
          exact this M h4 h1 (Hp.ok_symm (Hp.ok_right' o' o)) m
  | cons A L ih =>
    intro h
    constructor
    · rintro ⟨h1, h2, o, rfl, a, H⟩
      obtain ⟨h3, h4, o', rfl, l, m⟩ := ih.1 H
      exact ⟨h1.add h3, h4, Hp.ok_add (Hp.ok_right' o' o) o', by rw [Hp.add_assoc], ⟨h1, h3, Hp.ok_left' o, rfl, a, l⟩, m⟩
    · rintro ⟨h1, h2, o, rfl, ⟨h3, h4, o', rfl, a, l⟩, m⟩
      refine ⟨h3, h4.add h2, Hp.ok_add' o' (Hp.ok_add_left o), by rw [Hp.add_assoc], a, ih.2 ⟨h4, h2, Hp.ok_add_right o' o, rfl, l, m⟩⟩
theorem sepH_extra {M : List HP} {k l : Hp} (ok : k.ok l) (m : sepH g M k) : sepH g M (k.add l) := by
  have := (sepH_append (L := M) (M := [])).2 ⟨k, l, ok, rfl, m, trivial⟩
  simpa using this

def St (w : World) (L : List HP) : Prop := ∃ h : Hp, h.fits w ∧ sepH (ext w) L h

def Ent (L L' : List HP) : Prop := ∀ w F, St w (L ++ F) → St w (L' ++ F)
theorem St.perm {w : World} {L L' : List HP} (p : L.Perm L') (H : St w L) : St w L' := by
  obtain ⟨h, f, s⟩ := H; exact ⟨h, f, sepH_perm p s⟩
theorem St.heap {w w' : World} {L : List HP} (h : w'.heap = w.heap) (H : St w L) (he : ext w' = ext w := by rfl) : St w' L := by
  obtain ⟨h0, f, s⟩ := H; exact ⟨h0, fun b p o e => by rw [h]; exact f b p o e, by rw [he]; exact s⟩
theorem St.of_sep {w : World} {L L' : List HP} (h : ∀ k, sepH (ext w) L k → sepH (ext w) L' k) (H : St w L) : St w L' := by
  obtain ⟨h0, f, s⟩ := H; exact ⟨h0, f, h _ s⟩
theorem St.tail {w : World} {A : HP} {L : List HP} (H : St w (A :: L)) : St w L := by
  obtain ⟨h, f, h1, h2, o, rfl, a, l⟩ := H; exact ⟨h2, Hp.fits_right o f, l⟩
theorem St.drop_left {w : World} {M : List HP} : ∀ {L : List HP}, St w (L ++ M) → St w M
  | [], H => H
  | _ :: L, H => St.drop_left (L := L) H.tail
theorem St.drop_all (w : World) : St w [] := ⟨(fun _ => none : Nat → Option (Bool × Obj)), fun b p o e => by simp at e, trivial⟩
theorem Ent.refl (L : List HP) : Ent L L := fun _ _ H => H
theorem Ent.trans {L M N : List HP} (h1 : Ent L M) (h2 : Ent M N) : Ent L N := fun _ _ H => h2 _ _ (h1 _ _ H)
theorem Ent.perm {L L' : List HP} (p : L.Perm L') : Ent L L' := fun _ F H => St.perm (p.append_right F) H
theorem Ent.nil {L : List HP} : Ent L [] := fun _ _ H => St.drop_left H
theorem Ent.cons {A : HP} {L L' : List HP} (h : Ent L L') : Ent (A :: L) (A :: L') := fun w F H =>
  St.perm List.perm_middle (h w (A :: F) (St.perm List.perm_middle.symm H))
theorem Ent.drop {A : HP} {L L' : List HP} (h : Ent L L') : Ent (A :: L) L' := fun w F H => h w F H.tail
theorem Ent.app {L L' M : List HP} (h : Ent L L') : Ent (L ++ M) (L' ++ M) := fun w F H => by
  rw [List.append_assoc] at H ⊢; exact h w (M ++ F) H
theorem Ent.app_left {L M M' : List HP} (h : Ent M M') : Ent (L ++ M) (L ++ M') := by
  induction L with
  | nil => exact h
  | cons A L ih => exact ih.cons
theorem Ent.app2 {L L' M M' : List HP} (h : Ent L L') (h' : Ent M M') : Ent (L ++ M) (L' ++ M') := h.app.trans h'.app_left
theorem Ent.app_nil {L L' : List HP} (h : Ent L L') : Ent (L ++ []) L' := by simpa using h

def allH (L : List HP) : HP := fun g => sepH g L
def exH {α : Sort _} (P : α → HP) : HP := fun g h => ∃ x, P x g h
def pureH (φ : Prop) : HP := fun _ _ => φ
theorem Ent.open_all {L M : List HP} : Ent (allH L :: M) (L ++ M) := fun _ F H => by
  rw [List.append_assoc]; exact St.of_sep (L := allH L :: (M ++ F)) (fun _ h => sepH_append.2 h) H
theorem Ent.shut_all {L M : List HP} : Ent (L ++ M) (allH L :: M) := fun _ F H => by
  rw [List.append_assoc] at H; exact St.of_sep (fun _ h => sepH_append.1 h) H
theorem Ent.shut_ex {α : Sort _} {P : α → HP} (x : α) {M : List HP} : Ent (P x :: M) (exH P :: M) := fun _ F H =>
  St.of_sep (L := P x :: (M ++ F)) (fun h ⟨h1, h2, o, e, p, m⟩ => ⟨h1, h2, o, e, ⟨x, p⟩, m⟩) H
theorem St.open_ex {α : Sort _} {P : α → HP} {w : World} {M : List HP} (H : St w (exH P :: M)) : ∃ x, St w (P x :: M) := by
  obtain ⟨h0, f, h1, h2, o, e, ⟨x, p⟩, m⟩ := H; exact ⟨x, h0, f, h1, h2, o, e, p, m⟩
theorem Ent.shut_pure {φ : Prop} (h : φ) {M : List HP} : Ent M (pureH φ :: M) := fun _ F H =>
  St.of_sep (fun hh H => ⟨(fun _ => none : Nat → Option (Bool × Obj)), hh, fun b p o q o' e => by simp at e, by funext b; simp [Hp.add], h, H⟩) H
theorem St.open_pure {φ : Prop} {w : World} {M : List HP} (H : St w (pureH φ :: M)) : φ ∧ St w M := by
  refine ⟨?_, H.tail⟩
  obtain ⟨h0, f, h1, h2, o, e, p, m⟩ := H; exact p

def pt (b : Nat) (o : Obj) : HP := fun _ h => h b = some (true, o)
def ro (b : Nat) (o : Obj) : HP := fun _ h => h b = some (false, o)

theorem St.read_cons {w : World} {A : HP} {L : List HP} (H : St w (A :: L)) : ∃ h, h.fits w ∧ A (ext w) h := by
  obtain ⟨h, f, h1, h2, o, rfl, a, l⟩ := H; exact ⟨h1, Hp.fits_left f, a⟩
theorem St.pt_read {w : World} {b : Nat} {o : Obj} {L : List HP} (H : St w (pt b o :: L)) : w.heap[b]? = some o := by
  obtain ⟨h, f, a⟩ := H.read_cons; exact f b _ _ a
theorem St.ro_read {w : World} {b : Nat} {o : Obj} {L : List HP} (H : St w (ro b o :: L)) : w.heap[b]? = some o := by
  obtain ⟨h, f, a⟩ := H.read_cons; exact f b _ _ a

theorem St.pt_write {w w' : World} {b : Nat} {o o' : Obj} {L : List HP} (H : St w (pt b o :: L)) (hb : w'.heap[b]? = some o')
    (hk : ∀ k, k ≠ b → w'.heap[k]? = w.heap[k]?) (he : ext w' = ext w := by rfl) : St w' (pt b o' :: L) := by
  obtain ⟨h, f, h1, h2, ok, rfl, a, l⟩ := H
  rw [← he] at l
  have a' : h1 b = some (true, o) := a
  have none2 : h2 b = none := by
    cases e : h2 b with
    | none => rfl
    | some x => obtain ⟨q, o2⟩ := x; exact absurd (ok b _ _ _ _ a' e).1 (by simp)
  refine ⟨Hp.add (fun k => if k = b then some (true, o') else h1 k) h2, ?_, _, h2, ?_, rfl, by simp [pt], l⟩
  · refine Hp.fits_add ?_ ?_
    · intro k p ob e
      by_cases hkb : k = b
      · subst hkb; simp at e; rw [hb]; rw [e.2]
      · simp [hkb] at e; rw [hk k hkb]; exact Hp.fits_left f k p ob e
    · intro k p ob e
      have hkb : k ≠ b := fun h => by subst h; rw [none2] at e; simp at e
      rw [hk k hkb]; exact Hp.fits_right ok f k p ob e
  · intro k p ob q o2 e1 e2
    have hkb : k ≠ b := fun h => by subst h; rw [none2] at e2; simp at e2
    simp [hkb] at e1
    exact ok k p ob q o2 e1 e2

theorem St.pt_new {w w' : World} {o : Obj} {L : List HP} (H : St w L) (hh : w'.heap = w.heap.push o) (he : ext w' = ext w := by rfl) : St w' (pt w.heap.size o :: L) := by
  obtain ⟨h, f, l⟩ := H
  rw [← he] at l
  have noneh : h w.heap.size = none := by
    cases e : h w.heap.size with
    | none => rfl
    | some x => obtain ⟨q, o2⟩ := x; have := f _ _ _ e; simp at this
  refine ⟨Hp.add (fun k => if k = w.heap.size then some (true, o) else none) h, ?_, _, h, ?_, rfl, by simp [pt], l⟩
  · refine Hp.fits_add ?_ ?_
    · intro k p ob e
      by_cases hk : k = w.heap.size
      · subst hk; simp at e; rw [hh]; simp [e.2]
      · simp [hk] at e
    · intro k p ob e
      have := f k p ob e
      have hlt : k < w.heap.size := (Array.getElem?_eq_some_iff.1 this).1
      rw [hh, Array.getElem?_push_lt hlt, ← this, Array.getElem?_eq_getElem hlt]
  · intro k p ob q o2 e1 e2
    by_cases hk : k = w.heap.size
    · subst hk; rw [noneh] at e2; simp at e2
    · simp [hk] at e1

theorem Ent.shed {b : Nat} {o : Obj} {L : List HP} : Ent (pt b o :: L) (ro b o :: L) := fun w F H => by
  obtain ⟨h, f, h1, h2, ok, rfl, a, l⟩ := H
  have a' : h1 b = some (true, o) := a
  have none2 : h2 b = none := by
    cases e : h2 b with
    | none => rfl
    | some x => obtain ⟨q, o2⟩ := x; exact absurd (ok b _ _ _ _ a' e).1 (by simp)
  refine ⟨Hp.add (fun k => if k = b then some (false, o) else h1 k) h2, ?_, _, h2, ?_, rfl, by simp [ro], l⟩
  · refine Hp.fits_add ?_ (Hp.fits_right ok f)
    intro k p ob e
    by_cases hkb : k = b
    · subst hkb; simp at e; rw [← e.2]; exact Hp.fits_left f k _ _ a'
    · simp [hkb] at e; exact Hp.fits_left f k p ob e
  · intro k p ob q o2 e1 e2
    have hkb : k ≠ b := fun h => by subst h; rw [none2] at e2; simp at e2
    simp [hkb] at e1
    exact ok k p ob q o2 e1 e2
theorem Ent.dup {b : Nat} {o : Obj} {L : List HP} : Ent (ro b o :: L) (ro b o :: ro b o :: L) := fun w F H => by
  refine St.of_sep (fun hh H => ?_) H
  obtain ⟨h1, h2, ok, rfl, a, l⟩ := H
  have a' : h1 b = some (false, o) := a
  refine ⟨fun k => if k = b then some (false, o) else none, h1.add h2, ?_, ?_, by simp [ro], h1, h2, ok, rfl, a, l⟩
  · intro k p ob q o2 e1 e2
    by_cases hk : k = b
    · subst hk
      simp at e1
      simp [Hp.add, a'] at e2
      exact ⟨e1.1, e2.1, e1.2 ▸ e2.2 ▸ rfl⟩
    · simp [hk] at e1
  · funext k
    simp only [Hp.add]
    by_cases hk : k = b
    · subst hk; simp [a']
    · simp [hk]

end Go.SX
/- Weakest preconditions over lists of assertions: codes, loops, operations one by one, calls. No condition. -/
namespace Go.SX
open Go

abbrev Env := Nat → Option Value
def e0 : Env := fun _ => none
def upd (f : Env) (i : Nat) (v : Value) : Env := fun j => bif Nat.beq j i then some v else f j
def updAll : List (Nat × Value) → Env
  | [] => e0
  | (i, v) :: l => upd (updAll l) i v
def slots (f : Env) : List (Nat × Value) → Prop
  | [] => True
  | (i, v) :: l => f i = some v ∧ slots f l
theorem updAll_le {f : Env} : ∀ {l : List (Nat × Value)}, slots f l → ∀ i v, updAll l i = some v → f i = some v
  | [], _, i, v, h => by simp [updAll, e0] at h
  | (i, u) :: l, ⟨h1, h2⟩, j, v, h => by
    simp only [updAll, upd] at h
    cases hb : Nat.beq j i with
    | false => rw [hb] at h; exact updAll_le h2 j v h
    | true => rw [hb] at h; rw [Nat.eq_of_beq_eq_true hb, h1]; exact h
def ev (f : Env) : Operand → Option Value
  | .tmp t => f t
  | .const v => some v
  | .global g => some (.pointer (some ⟨g, 0, none⟩))
  | .func g => some (.func (.func g) #[] #[])
def updo (f : Env) : Option Nat → Value → Env
  | some d, v => upd f d v
  | none, _ => f

structure Sim (n : Nat) (a : Act) (f : Env) : Prop where
  defers : a.defers = []
  size : a.tmps.size = n
  at_ : ∀ i v, f i = some v → a.tmps.getD i undef = v
theorem Sim.eval {n : Nat} {a : Act} {f : Env} (h : Sim n a f) : ∀ {x : Operand} {v : Value}, ev f x = some v → a.eval x = v
  | .tmp t, v, hx => h.at_ t v hx
  | .const u, v, hx => by simpa [ev, Act.eval] using hx
  | .global g, v, hx => by simpa [ev, Act.eval] using hx
  | .func g, v, hx => by simpa [ev, Act.eval] using hx
theorem Sim.weaken {n : Nat} {a : Act} {f g : Env} (h : Sim n a f) (H : ∀ i v, g i = some v → f i = some v) : Sim n a g :=
  ⟨h.defers, h.size, fun i v e => h.at_ i v (H i v e)⟩
theorem Sim.put {n : Nat} {a : Act} {f : Env} (h : Sim n a f) {d : Option Nat} (hd : d.all (fun d => decide (d < n)) = true) (v : Value) : Sim n (a.put d v) (updo f d v) := by
  cases d with
  | none => exact h
  | some d =>
    have hd : d < n := by simpa using hd
    refine ⟨h.defers, by simp [Act.put, h.size], fun i u e => ?_⟩
    have hi := h.at_ i u
    simp only [Act.put, updo, upd] at e ⊢
    cases hb : Nat.beq i d with
    | true =>
      rw [hb] at e
      have : i = d := Nat.eq_of_beq_eq_true hb
      subst this
      simp at e
      simp [Array.getD_eq_getD_getElem?, h.size, hd, e]
    | false =>
      rw [hb] at e
      have hne : ¬ d = i := fun e => by subst e; simp at hb
      have := hi e
      simp only [Array.getD_eq_getD_getElem?, Array.getElem?_setIfInBounds, hne, if_false] at this ⊢
      exact this

abbrev Post := Exit → Env → List HP → Prop
def lift (n : Nat) (F : List HP) (Q : Post) : Exit → Act → World → Prop := fun e a w => ∃ f L, Sim n a f ∧ St w (L ++ F) ∧ Q e f L

def okOps (n : Nat) (l : List Oper) : Bool := l.all fun o => o.dst.all (fun d => decide (d < n))
def okCode (n : Nat) : Code → Bool
  | .region _ ops _ => okOps n ops.toList
  | .seq a b => okCode n a && okCode n b
  | .cond _ a b => okCode n a && okCode n b
  | .block _ c => okCode n c
  | .loop c => okCode n c
  | .scope c => okCode n c
  | _ => true

variable (P : Program) (n : Nat)
def swp (c : Code) (Q : Post) (f : Env) (L : List HP) : Prop :=
  okCode n c = true → ∀ F a w, Sim n a f → St w (L ++ F) → c.wp P (lift n F Q) a w
def opsS (ops : List Oper) (rest : List Oper) (Q : Post) (f : Env) (L : List HP) : Prop :=
  okOps n rest = true → ∀ F a w, Sim n a f → St w (L ++ F) → wpList P ops.toArray (lift n F Q) rest a w
def CallsS (g : FuncId) (args : List Value) (L : List HP) (R : Value → List HP → Prop) : Prop :=
  ∀ F w, St w (L ++ F) → Calls P g args.toArray w fun e w' => ∃ v L', e = .returned v ∧ St w' (L' ++ F) ∧ R v L'

variable {P n}
def thenS (K : Env → List HP → Prop) (Q : Post) : Post
  | .normal, f, L => K f L
  | e, f, L => Q e f L
def blockS (id : Nat) (Q : Post) : Post
  | .exit j, f, L => bif Nat.beq j id then Q .normal f L else Q (.exit j) f L
  | e, f, L => Q e f L

section codes
variable {Q : Post} {f : Env} {L : List HP}

theorem swp_mono {c : Code} {Q' : Post} (h : swp P n c Q f L) (hq : ∀ e f L, Q e f L → Q' e f L) : swp P n c Q' f L :=
  fun ok F a w s t => wp_mono (h ok F a w s t) fun _ _ _ ⟨f, L, s, t, q⟩ => ⟨f, L, s, t, hq _ _ _ q⟩
theorem swp_ent {c : Code} {L' : List HP} (h : Ent L L') (H : swp P n c Q f L') : swp P n c Q f L :=
  fun ok F a w s t => H ok F a w s (h w F t)
theorem opsS_ent {ops : List Oper} {rest : List Oper} {L' : List HP} (h : Ent L L') (H : opsS P n ops rest Q f L') : opsS P n ops rest Q f L :=
  fun ok F a w s t => H ok F a w s (h w F t)
theorem swp_ex {α : Sort _} {c : Code} {X : α → HP} (H : ∀ x, swp P n c Q f (X x :: L)) : swp P n c Q f (exH X :: L) :=
  fun ok F a w s t => let ⟨x, t⟩ := St.open_ex t; H x ok F a w s t
theorem swp_pure {c : Code} {φ : Prop} (H : φ → swp P n c Q f L) : swp P n c Q f (pureH φ :: L) :=
  fun ok F a w s t => let ⟨x, t⟩ := St.open_pure t; H x ok F a w s t
theorem opsS_ex {α : Sort _} {ops : List Oper} {rest : List Oper} {X : α → HP} (H : ∀ x, opsS P n ops rest Q f (X x :: L)) : opsS P n ops rest Q f (exH X :: L) :=
  fun ok F a w s t => let ⟨x, t⟩ := St.open_ex t; H x ok F a w s t
theorem opsS_pure {ops : List Oper} {rest : List Oper} {φ : Prop} (H : φ → opsS P n ops rest Q f L) : opsS P n ops rest Q f (pureH φ :: L) :=
  fun ok F a w s t => let ⟨x, t⟩ := St.open_pure t; H x ok F a w s t

theorem swp_skip (h : Q .normal f L) : swp P n .skip Q f L := fun _ _ _ _ s t => wp_skip ⟨f, L, s, t, h⟩
theorem swp_ret (h : Q .ret f L) : swp P n .ret Q f L := fun _ _ _ _ s t => wp_ret ⟨f, L, s, t, h⟩
theorem swp_exit {id : Nat} (h : Q (.exit id) f L) : swp P n (.exit id) Q f L := fun _ _ _ _ s t => wp_exit ⟨f, L, s, t, h⟩
theorem swp_label {l : Nat} (h : Q .normal f L) : swp P n (.label l) Q f L := fun _ _ _ _ s t => wp_label ⟨f, L, s, t, h⟩
theorem swp_seq {x y : Code} (h : swp P n x (thenS (fun f L => swp P n y Q f L) Q) f L) : swp P n (.seq x y) Q f L := by
  intro ok F a w s t
  simp only [okCode, Bool.and_eq_true] at ok
  refine wp_seq (wp_mono (h ok.1 F a w s t) ?_)
  rintro e a w ⟨f, L, s, t, q⟩
  cases e <;> first | exact q ok.2 F _ _ s t | exact ⟨f, L, s, t, q⟩
theorem swp_block {id : Nat} {c : Code} (h : swp P n c (blockS id Q) f L) : swp P n (.block id c) Q f L := by
  intro ok F a w s t
  refine wp_block (wp_mono (h ok F a w s t) ?_)
  rintro e a w ⟨f, L, s, t, q⟩
  cases e with
  | exit j =>
    simp only [Exit.inBlock]
    by_cases h : j = id
    · subst h; simp only [blockS] at q; rw [if_pos rfl]
      exact ⟨f, L, s, t, by simpa using q⟩
    · rw [if_neg h]
      have : Nat.beq j id = false := by cases hb : Nat.beq j id with | false => rfl | true => exact absurd (Nat.eq_of_beq_eq_true hb) h
      simp only [blockS, this, cond_false] at q
      exact ⟨f, L, s, t, q⟩
  | _ => exact ⟨f, L, s, t, q⟩
theorem swp_cond_true {c : Operand} {x y : Code} (hc : ev f c = some (.bool true)) (h : swp P n x Q f L) : swp P n (.cond c x y) Q f L := by
  intro ok F a w s t
  simp only [okCode, Bool.and_eq_true] at ok
  exact wp_cond_true (s.eval hc) (h ok.1 F a w s t)
theorem swp_cond_false {c : Operand} {x y : Code} (hc : ev f c = some (.bool false)) (h : swp P n y Q f L) : swp P n (.cond c x y) Q f L := by
  intro ok F a w s t
  simp only [okCode, Bool.and_eq_true] at ok
  exact wp_cond_false (s.eval hc) (h ok.2 F a w s t)
theorem swp_cond {c : Operand} {x y : Code} {b : Bool} (hc : ev f c = some (.bool b)) (ht : b = true → swp P n x Q f L) (hf : b = false → swp P n y Q f L) :
    swp P n (.cond c x y) Q f L := by
  cases b
  · exact swp_cond_false hc (hf rfl)
  · exact swp_cond_true hc (ht rfl)
theorem swp_cond_t {c : Operand} {x y : Code} {b : Bool} (hc : ev f c = some (.bool b)) (hb : b = true) (h : swp P n x Q f L) : swp P n (.cond c x y) Q f L :=
  swp_cond_true (hc.trans (by rw [hb])) h
theorem swp_cond_f {c : Operand} {x y : Code} {b : Bool} (hc : ev f c = some (.bool b)) (hb : b = false) (h : swp P n y Q f L) : swp P n (.cond c x y) Q f L :=
  swp_cond_false (hc.trans (by rw [hb])) h
theorem swp_scope {c : Code} (h : swp P n c (fun e f L => match e with | .goto _ => False | e => Q e f L) f L) : swp P n (.scope c) Q f L := by
  intro ok F a w s t
  refine wp_scope_straight (wp_mono (h ok F a w s t) ?_)
  rintro e a w ⟨f, L, s, t, q⟩
  cases e <;> first | exact ⟨f, L, s, t, q⟩ | exact q.elim
theorem swp_region {id : Nat} {l : List Oper} (h : opsS P n l l Q f L) : swp P n (.region id l.toArray false) Q f L :=
  fun ok F a w s t => wp_region_lit (h (by simpa [okCode] using ok) F a w s t)
theorem opsS_nil {ops : List Oper} (h : Q .normal f L) : opsS P n ops [] Q f L := fun _ _ _ _ s t => wpList_nil ⟨f, L, s, t, h⟩

theorem swp_loop {σ : Type} {c : Code} (sl : σ → List (Nat × Value)) (H : σ → List HP) (φ : σ → Prop) (μ : σ → Nat) (s0 : σ)
    (h0 : slots f (sl s0)) (hH : Ent L (H s0)) (hφ : φ s0)
    (round : ∀ s, φ s → swp P n c (thenS (fun f L => ∃ s', slots f (sl s') ∧ Ent L (H s') ∧ φ s' ∧ μ s' < μ s) Q) (updAll (sl s)) (H s)) :
    swp P n (.loop c) Q f L := by
  intro ok F a w s t b kk cs
  have key : ∀ k s a w, μ s = k → φ s → (∃ f, Sim n a f ∧ slots f (sl s)) → St w (H s ++ F) →
      ∃ e a' w', lift n F Q e a' w' ∧ Arrives P (lone (b.at a (.code c :: .inLoop c :: kk)) cs w) b kk cs e a' w' := by
    intro k
    induction k using Nat.strongRecOn with
    | _ k ih =>
      intro s a w hk hp ⟨f, hs, hsl⟩ ht
      have hr := round s hp ok F a w (hs.weaken (updAll_le hsl)) ht
      obtain ⟨e, a₁, w₁, ⟨f1, L1, s1, t1, q⟩, harr⟩ := hr b (.inLoop c :: kk) cs
      cases e with
      | normal =>
        obtain ⟨s', hsl', hent, hp', hlt⟩ := q
        obtain ⟨e₂, a₂, w₂, hq₂, harr₂⟩ := ih (μ s') (hk ▸ hlt) s' a₁ w₁ rfl hp' ⟨f1, s1, hsl'⟩ (hent _ _ t1)
        exact ⟨e₂, a₂, w₂, hq₂, .of_steps (Steps.trans harr (.one step_inLoop)) harr₂⟩
      | exit id => exact ⟨_, a₁, w₁, ⟨f1, L1, s1, t1, q⟩, .pass (x := .inLoop c) rfl (fun _ _ => .inl (by simp)) harr⟩
      | goto l => exact ⟨_, a₁, w₁, ⟨f1, L1, s1, t1, q⟩, .pass (x := .inLoop c) rfl (fun _ _ => .inl (by simp)) harr⟩
      | ret => exact ⟨_, a₁, w₁, ⟨f1, L1, s1, t1, q⟩, .pass (x := .inLoop c) rfl (fun _ _ => .inl (by simp)) harr⟩
      | panic ch => exact ⟨_, a₁, w₁, ⟨f1, L1, s1, t1, q⟩, .pass (x := .inLoop c) rfl (fun _ _ => .inl (by simp)) harr⟩
      | outgrown => exact ⟨_, a₁, w₁, ⟨f1, L1, s1, t1, q⟩, .pass (x := .inLoop c) rfl (fun _ _ => .inl (by simp)) harr⟩
  obtain ⟨e, a', w', hq, harr⟩ := key _ s0 a w rfl hφ ⟨f, s, h0⟩ (hH _ _ t)
  exact ⟨e, a', w', hq, .of_steps (.one step_loop) harr⟩

theorem swp_keep {c : Code} (l : List (Nat × Value)) (h : slots f l) (H : swp P n c Q (updAll l) L) : swp P n c Q f L :=
  fun ok F a w s t => H ok F a w (s.weaken (updAll_le h)) t
theorem opsS_keep {ops rest : List Oper} (l : List (Nat × Value)) (h : slots f l) (H : opsS P n ops rest Q (updAll l) L) : opsS P n ops rest Q f L :=
  fun ok F a w s t => H ok F a w (s.weaken (updAll_le h)) t
theorem swp_cut {x y : Code} {σ : Type} (sl : σ → List (Nat × Value)) (H : σ → List HP) (φ : σ → Prop)
    (h : swp P n x (thenS (fun f L => ∃ s, slots f (sl s) ∧ Ent L (H s) ∧ φ s) Q) f L)
    (hk : ∀ s, φ s → swp P n y Q (updAll (sl s)) (H s)) : swp P n (.seq x y) Q f L := by
  refine swp_seq (swp_mono h ?_)
  intro e f L q
  cases e <;> first | exact q | (obtain ⟨s, h1, h2, h3⟩ := q; exact swp_keep _ h1 (swp_ent h2 (hk s h3)))
end codes
end Go.SX
/- The operations, one by one, over lists of assertions. No condition. -/
namespace Go.SX
open Go

/-! Facts on types, as classes: the search finds them by the type's number. -/
class Ty (P : Program) (t : TypeId) (agg : outParam Bool) (size : outParam Nat) (zero : outParam (List Value)) (bytes : outParam Nat) : Prop where
  raw : ∃ (i : TypeInfo) (z : Value), P.info? t = some i ∧ i.size = size ∧ i.bytes = bytes ∧ i.zero = some z ∧ z.cells.toList = zero
  agg : ∀ w, (isAgg t).run P w = .ok agg w
  size : ∀ w, (sizeOf t).run P w = .ok size w
  zero : ∃ z, (∀ w, (zeroValue t).run P w = .ok z w) ∧ z.cells.toList = zero
  info : ∃ i, (∀ w, (typeInfo t).run P w = .ok i w) ∧ i.bytes = bytes
class SlTy (P : Program) (t : TypeId) (e : outParam TypeId) : Prop where
  und : ∀ w, (underlying t).run P w = .ok (.slice e) w
  raw : P.underlying t = some (.slice e)
class IntTy (P : Program) (t : TypeId) (k : outParam IntKind) : Prop where
  und : ∀ w, (underlying t).run P w = .ok (.int k) w
  raw : P.underlying t = some (.int k)
class MapTy (P : Program) (t : TypeId) (k e : outParam TypeId) : Prop where
  und : ∀ w, (underlying t).run P w = .ok (.map k e) w
  raw : P.underlying t = some (.map k e)
class PtrTy (P : Program) (t : TypeId) (e : outParam TypeId) : Prop where
  und : ∀ w, (underlying t).run P w = .ok (.pointer e) w
  raw : P.underlying t = some (.pointer e)
class StrTy (P : Program) (t : TypeId) : Prop where
  und : ∀ w, (underlying t).run P w = .ok .string w
  raw : P.underlying t = some (.string)
class ArrTy (P : Program) (t : TypeId) (len : outParam Nat) (e : outParam TypeId) : Prop where
  und : ∀ w, (underlying t).run P w = .ok (.array len e) w
  raw : P.underlying t = some (.array len e)
class HasUnd (P : Program) (t : TypeId) : Prop where
  und : ∃ d, ∀ w, (underlying t).run P w = .ok d w
class StTy (P : Program) (t : TypeId) (fs : outParam (List (Nat × Nat × Bool))) : Prop where
  und : ∃ fields : Array Field, (∀ w, (underlying t).run P w = .ok (.struct fields) w) ∧ fields.size = fs.length ∧
    ∀ (i off sz : Nat) (ag : Bool), (show List (Nat × Nat × Bool) from fs)[i]? = some (off, sz, ag) → ∃ f : Field, fields[i]? = some f ∧ f.offset = off ∧ (∀ w, (sizeOf f.type).run P w = .ok sz w) ∧ (∀ w, (isAgg f.type).run P w = .ok ag w)
class Enters (P : Program) (f : FuncId) : Prop where
  run : ∀ args w, (callFunc f args).run P w = .ok (.enter f args) w

def cl (l : List Value) (t : TypeId) : Obj := .cells l.toArray t (0, 0)

/-! Finding a block in the list. -/
class FindB (b : Nat) (L : List HP) (o : outParam Obj) : Prop where
  at_ : ∀ w F, St w (L ++ F) → w.heap[b]? = some o
instance FindB.here {b : Nat} {o : Obj} {L : List HP} : FindB b (pt b o :: L) o := ⟨fun _ _ H => St.pt_read H⟩
instance FindB.hereR {b : Nat} {o : Obj} {L : List HP} : FindB b (ro b o :: L) o := ⟨fun _ _ H => St.ro_read H⟩
instance (priority := low) FindB.there {b : Nat} {o : Obj} {A : HP} {L : List HP} [h : FindB b L o] : FindB b (A :: L) o := ⟨fun _ _ H => h.at_ _ _ H.tail⟩
class UpdB (b : Nat) (L : List HP) (o : outParam Obj) (L' : outParam (Obj → List HP)) : Prop where
  at_ : ∃ R, L.Perm (pt b o :: R) ∧ ∀ x, (pt b x :: R).Perm (L' x)
instance UpdB.here {b : Nat} {o : Obj} {L : List HP} : UpdB b (pt b o :: L) o (fun x => pt b x :: L) := ⟨L, .refl _, fun _ => .refl _⟩
instance (priority := low) UpdB.there {b : Nat} {o : Obj} {A : HP} {L : List HP} {L' : Obj → List HP} [h : UpdB b L o L'] : UpdB b (A :: L) o (fun x => A :: L' x) := by
  obtain ⟨R, h1, h2⟩ := h.at_
  refine ⟨A :: R, ?_, fun x => ?_⟩
  · exact (h1.cons A).trans (.swap _ _ _)
  · exact List.Perm.trans (.swap _ _ _) ((h2 x).cons A)
class Sub (L0 L : List HP) : Prop where
  ent : Ent L L0
instance Sub.refl {L : List HP} : Sub L L := ⟨Ent.refl L⟩
instance (priority := low) Sub.there {L0 L : List HP} {A : HP} [h : Sub L0 L] : Sub L0 (A :: L) := ⟨h.ent.drop⟩

def RdC (L : List HP) (b off : Nat) (cs : List Value) : Prop :=
  ∀ w F, St w (L ++ F) → ∀ j v, cs[j]? = some v → w.cell? ⟨b, off + j, none⟩ = some v
theorem RdC.sub {L0 L : List HP} {b off : Nat} {cs : List Value} (h : RdC L0 b off cs) [s : Sub L0 L] : RdC L b off cs :=
  fun w F H => h w F (s.ent _ _ H)
theorem RdC.ent {L0 L : List HP} {b off : Nat} {cs : List Value} (h : RdC L0 b off cs) (s : Ent L L0) : RdC L b off cs :=
  fun w F H => h w F (s _ _ H)
theorem RdC.find {L : List HP} {b : Nat} {l : List Value} {t : TypeId} {fz : Nat × Nat} [h : FindB b L (.cells l.toArray t fz)] {off : Nat} {cs : List Value} (hl : ∀ j v, cs[j]? = some v → l[off + j]? = some v) : RdC L b off cs :=
  fun w F H j v e => by
    have := h.at_ w F H
    simp [World.cell?, this, hl j v e]
theorem RdC.row {L : List HP} {b : Nat} {l : List Value} {t : TypeId} [h : FindB b L (cl l t)] : RdC L b 0 l :=
  RdC.find (h := h) fun j v e => by simpa using e
theorem RdC.part {L : List HP} {b off k : Nat} {cs ds : List Value} (h : RdC L b off cs) (hd : ∀ j v, ds[j]? = some v → cs[k + j]? = some v) : RdC L b (off + k) ds :=
  fun w F H j v e => by have := h w F H (k + j) v (hd j v e); rwa [← Nat.add_assoc] at this

/-! The general steps. -/
section
variable {P : Program} {n : Nat} {ops rest : List Oper} {Q : Post} {f : Env} {L : List HP}

def StepV (P : Program) (n : Nat) (o : Oper) (f : Env) (L : List HP) (R : Value → List HP → Prop) : Prop :=
  ∀ F a w, Sim n a f → St w (L ++ F) → ∃ v w' L', (execOp a.eval o).run P w = .ok (.value v) w' ∧ St w' (L' ++ F) ∧ R v L'

theorem opsS_value {d : Option Tmp} {op : Op} {ty : TypeId} {pos : String} {af : Array Edge} {R : Value → List HP → Prop}
    (h : StepV P n ⟨d, op, ty, pos, af, none⟩ f L R) (hk : ∀ v L', R v L' → opsS P n ops rest Q (updo f d v) L') :
    opsS P n ops (⟨d, op, ty, pos, af, none⟩ :: rest) Q f L := by
  intro ok F a w s t
  simp only [okOps, List.all_cons, Bool.and_eq_true] at ok
  obtain ⟨v, w', L', hr, t', r⟩ := h F a w s t
  refine wpList_plain rfl fun K hK => ?_
  simp only [Oper.wp, hr, Oper.upon]
  exact hK _ _ (hk v L' r ok.2 F _ _ (s.put ok.1 v) t')
theorem opsS_pure1 {d : Option Tmp} {op : Op} {ty : TypeId} {pos : String} {af : Array Edge} {v : Value}
    (h : ∀ a w, Sim n a f → (execOp a.eval ⟨d, op, ty, pos, af, none⟩).run P w = .ok (.value v) w) (hk : opsS P n ops rest Q (updo f d v) L) :
    opsS P n ops (⟨d, op, ty, pos, af, none⟩ :: rest) Q f L :=
  opsS_value (R := fun u L' => u = v ∧ L' = L) (fun F a w s t => ⟨v, w, L, h a w s, t, rfl, rfl⟩) (by rintro _ _ ⟨rfl, rfl⟩; exact hk)
theorem opsS_skip1 {d : Option Tmp} {op : Op} {ty : TypeId} {pos : String} {af : Array Edge} {L' : List HP}
    (h : ∀ F a w, Sim n a f → St w (L ++ F) → ∃ w', (execOp a.eval ⟨d, op, ty, pos, af, none⟩).run P w = .ok .skip w' ∧ St w' (L' ++ F)) (hk : opsS P n ops rest Q (updo f d undef) L') :
    opsS P n ops (⟨d, op, ty, pos, af, none⟩ :: rest) Q f L := by
  intro ok F a w s t
  simp only [okOps, List.all_cons, Bool.and_eq_true] at ok
  obtain ⟨w', hr, t'⟩ := h F a w s t
  refine wpList_plain rfl fun K hK => ?_
  simp only [Oper.wp, hr, Oper.upon]
  exact hK _ _ (hk ok.2 F _ _ (s.put ok.1 undef) t')

def wantS (ops : List Oper) (f : Env) (g : Nat × Bool) : Option Bool :=
  match (ops[g.1]?).bind (·.dst) with
  | some d => match f d with
    | some (.bool b) => some (b == g.2)
    | _ => none
  | none => none
theorem wanted_of {a : Act} {g : Nat × Bool} {b : Bool} (s : Sim n a f) (h : wantS ops f g = some b) (o : Oper) (ho : o.guard = some g) :
    Region.wanted o (yielded ops.toArray a.tmps) = b := by
  simp only [wantS] at h
  cases hd : (ops[g.1]?).bind (·.dst) with
  | none => rw [hd] at h; simp at h
  | some d =>
    rw [hd] at h
    simp only at h
    cases hf : f d with
    | none => rw [hf] at h; simp at h
    | some v =>
      rw [hf] at h
      cases v <;> simp at h
      rename_i c
      have := s.at_ d _ hf
      have hh : a.tmps[d]? = some (.bool c) := by
        rw [Array.getD_eq_getD_getElem?] at this
        cases h2 : a.tmps[d]? with
        | none => rw [h2] at this; simp [undef] at this
        | some u => rw [h2] at this; simp at this; rw [this]
      have hy : yielded ops.toArray a.tmps g.1 = some c := by
        simp [yielded, hd, hh]
      simp only [Region.wanted, ho]
      rw [hy, ← h]
      cases c <;> cases g.2 <;> rfl
theorem S.guard {d : Option Tmp} {op : Op} {ty : TypeId} {pos : String} {af : Array Edge} {g : Nat × Bool} (hg : wantS ops f g = some true)
    (h : opsS P n ops (⟨d, op, ty, pos, af, none⟩ :: rest) Q f L) : opsS P n ops (⟨d, op, ty, pos, af, some g⟩ :: rest) Q f L := by
  intro ok F a w s t
  have hw := wanted_of s hg ⟨d, op, ty, pos, af, some g⟩ rfl
  have := h (by simpa [okOps] using ok) F a w s t
  have h2 : Region.wanted (⟨d, op, ty, pos, af, none⟩ : Oper) (yielded ops.toArray a.tmps) = true := rfl
  simp only [wpList, hw, h2, if_true] at this ⊢
  exact this
theorem S.gskip {d : Option Tmp} {op : Op} {ty : TypeId} {pos : String} {af : Array Edge} {g : Nat × Bool} (hg : wantS ops f g = some false)
    (h : opsS P n ops rest Q (updo f d undef) L) : opsS P n ops (⟨d, op, ty, pos, af, some g⟩ :: rest) Q f L := by
  intro ok F a w s t
  have hw := wanted_of s hg ⟨d, op, ty, pos, af, some g⟩ rfl
  simp only [okOps, List.all_cons, Bool.and_eq_true] at ok
  have := h ok.2 F _ w (s.put ok.1 undef) t
  simp only [wpList, hw, Bool.false_eq_true, if_false]
  exact this
theorem S.guardP {d : Option Tmp} {op : Op} {ty : TypeId} {pos : String} {af : Array Edge} {g : Nat × Bool} {b : Bool} (hg : wantS ops f g = some b) (hb : b = true)
    (h : opsS P n ops (⟨d, op, ty, pos, af, none⟩ :: rest) Q f L) : opsS P n ops (⟨d, op, ty, pos, af, some g⟩ :: rest) Q f L := S.guard (hb ▸ hg) h
theorem S.gskipP {d : Option Tmp} {op : Op} {ty : TypeId} {pos : String} {af : Array Edge} {g : Nat × Bool} {b : Bool} (hg : wantS ops f g = some b) (hb : b = false)
    (h : opsS P n ops rest Q (updo f d undef) L) : opsS P n ops (⟨d, op, ty, pos, af, some g⟩ :: rest) Q f L := S.gskip (hb ▸ hg) h
theorem S.gskip1 {d : Tmp} {op : Op} {ty : TypeId} {pos : String} {af : Array Edge} {g : Nat × Bool} (hg : wantS ops f g = some false)
    (h : opsS P n ops rest Q (upd f d undef) L) : opsS P n ops (⟨some d, op, ty, pos, af, some g⟩ :: rest) Q f L := S.gskip hg h
theorem S.split (d : Nat) {b : Bool} (hd : f d = some (.bool b)) (ht : b = true → opsS P n ops rest Q (upd f d (.bool true)) L) (hf : b = false → opsS P n ops rest Q (upd f d (.bool false)) L) :
    opsS P n ops rest Q f L := by
  have key : ∀ c, b = c → opsS P n ops rest Q (upd f d (.bool c)) L → opsS P n ops rest Q f L := fun c e h ok F a w s t =>
    h ok F a w (s.weaken fun i v hv => by
      simp only [upd] at hv
      cases hb : Nat.beq i d with
      | false => rw [hb] at hv; exact hv
      | true => rw [hb] at hv; rw [Nat.eq_of_beq_eq_true hb, hd, e]; exact hv) t
  cases b
  · exact key false rfl (hf rfl)
  · exact key true rfl (ht rfl)
theorem S.gsp {d : Option Tmp} {op : Op} {ty : TypeId} {pos : String} {af : Array Edge} {g : Nat × Bool} {dg : Nat} {b : Bool} (h0 : (ops[g.1]?).bind (·.dst) = some dg) (hd : f dg = some (.bool b))
    (ht : b = true → opsS P n ops (⟨d, op, ty, pos, af, some g⟩ :: rest) Q (upd f dg (.bool true)) L) (hf : b = false → opsS P n ops (⟨d, op, ty, pos, af, some g⟩ :: rest) Q (upd f dg (.bool false)) L) :
    opsS P n ops (⟨d, op, ty, pos, af, some g⟩ :: rest) Q f L := S.split dg hd ht hf
theorem S.gT {d : Option Tmp} {op : Op} {ty : TypeId} {pos : String} {af : Array Edge} {g : Nat × Bool} {dg : Nat} {b : Bool} (h0 : (ops[g.1]?).bind (·.dst) = some dg) (hd : f dg = some (.bool b)) (hb : b = true)
    (ht : opsS P n ops (⟨d, op, ty, pos, af, some g⟩ :: rest) Q (upd f dg (.bool true)) L) : opsS P n ops (⟨d, op, ty, pos, af, some g⟩ :: rest) Q f L := S.gsp h0 hd (fun _ => ht) (fun h => by rw [hb] at h; cases h)
theorem S.gF {d : Option Tmp} {op : Op} {ty : TypeId} {pos : String} {af : Array Edge} {g : Nat × Bool} {dg : Nat} {b : Bool} (h0 : (ops[g.1]?).bind (·.dst) = some dg) (hd : f dg = some (.bool b)) (hb : b = false)
    (hf : opsS P n ops (⟨d, op, ty, pos, af, some g⟩ :: rest) Q (upd f dg (.bool false)) L) : opsS P n ops (⟨d, op, ty, pos, af, some g⟩ :: rest) Q f L := S.gsp h0 hd (fun h => by rw [hb] at h; cases h) (fun _ => hf)
end
end Go.SX
/- The operations that touch no memory, and those on single places. No condition. -/
namespace Go.SX
open Go
section
variable {P : Program} {n : Nat} {ops rest : List Oper} {Q : Post} {f : Env} {L : List HP}
variable {d : Tmp} {ty : TypeId} {pos : String} {af : Array Edge}

theorem S.mv {x : Operand} {v : Value} (hx : ev f x = some v) (hk : opsS P n ops rest Q (upd f d v) L) : opsS P n ops (⟨some d, .move x, ty, pos, af, none⟩ :: rest) Q f L :=
  opsS_pure1 (v := v) (fun a w s => by simp [execOp, s.eval hx]) hk
theorem S.as {x : Operand} {v : Value} (hx : ev f x = some v) (hk : opsS P n ops rest Q (upd f d v) L) : opsS P n ops (⟨some d, .assign x, ty, pos, af, none⟩ :: rest) Q f L :=
  opsS_pure1 (v := v) (fun a w s => by simp [execOp, s.eval hx]) hk
theorem S.pk_t {c x y : Operand} {v : Value} (hc : ev f c = some (.bool true)) (hx : ev f x = some v) (hk : opsS P n ops rest Q (upd f d v) L) : opsS P n ops (⟨some d, .pick c x y, ty, pos, af, none⟩ :: rest) Q f L :=
  opsS_pure1 (v := v) (fun a w s => by simp [execOp, s.eval hx, s.eval hc, asBool]) hk
theorem S.pk_f {c x y : Operand} {v : Value} (hc : ev f c = some (.bool false)) (hy : ev f y = some v) (hk : opsS P n ops rest Q (upd f d v) L) : opsS P n ops (⟨some d, .pick c x y, ty, pos, af, none⟩ :: rest) Q f L :=
  opsS_pure1 (v := v) (fun a w s => by simp [execOp, s.eval hy, s.eval hc, asBool]) hk
theorem S.pk {c x y : Operand} {b b1 b2 : Bool} (hc : ev f c = some (.bool b)) (hx : ev f x = some (.bool b1)) (hy : ev f y = some (.bool b2)) (hk : opsS P n ops rest Q (upd f d (.bool (bif b then b1 else b2))) L) : opsS P n ops (⟨some d, .pick c x y, ty, pos, af, none⟩ :: rest) Q f L :=
  opsS_pure1 (v := .bool (bif b then b1 else b2)) (fun a w s => by cases b <;> simp [execOp, s.eval hx, s.eval hy, s.eval hc, asBool]) hk
theorem S.ext {x : Operand} {i : Nat} {vs : Array Value} {v : Value} (hx : ev f x = some (.tuple vs)) (hv : vs.toList[i]? = some v) (hk : opsS P n ops rest Q (upd f d v) L) : opsS P n ops (⟨some d, .extract x i, ty, pos, af, none⟩ :: rest) Q f L :=
  opsS_pure1 (v := v) (fun a w s => by
    have hv' : vs[i]? = some v := by simpa using hv
    simp [execOp, s.eval hx, Instr.extract, hv']) hk
theorem S.nc {x : Operand} {ad : Addr} (hx : ev f x = some (.pointer (some ad))) (hk : opsS P n ops rest Q (upd f d (.pointer (some ad))) L) : opsS P n ops (⟨some d, .nilCheck x, ty, pos, af, none⟩ :: rest) Q f L :=
  opsS_pure1 (v := .pointer (some ad)) (fun a w s => by simp [execOp, s.eval hx]) hk
theorem S.ncf {x : Operand} {fn : FuncId} {c1 c2 : Array Value} (hx : ev f x = some (.func (.func fn) c1 c2)) (hk : opsS P n ops rest Q (upd f d (.func (.func fn) c1 c2)) L) : opsS P n ops (⟨some d, .nilCheck x, ty, pos, af, none⟩ :: rest) Q f L :=
  opsS_pure1 (v := .func (.func fn) c1 c2) (fun a w s => by simp [execOp, s.eval hx]) hk

/-! Integers: comparisons, sums. -/
theorem S.lss {x y : Operand} {t t' : TypeId} {k : IntKind} {a b : Int} (hx : ev f x = some (.int k a)) (hy : ev f y = some (.int k b)) (hk : opsS P n ops rest Q (upd f d (.bool (decide (a < b)))) L) : opsS P n ops (⟨some d, .binOp .lss t x y t', ty, pos, af, none⟩ :: rest) Q f L :=
  opsS_pure1 (fun _ w s => by simp [execOp, s.eval hx, s.eval hy, eqGuard, binOp, Op.intCmp]) hk
theorem S.leq {x y : Operand} {t t' : TypeId} {k : IntKind} {a b : Int} (hx : ev f x = some (.int k a)) (hy : ev f y = some (.int k b)) (hk : opsS P n ops rest Q (upd f d (.bool (decide (a ≤ b)))) L) : opsS P n ops (⟨some d, .binOp .leq t x y t', ty, pos, af, none⟩ :: rest) Q f L :=
  opsS_pure1 (fun _ w s => by simp [execOp, s.eval hx, s.eval hy, eqGuard, binOp, Op.intCmp]) hk
theorem S.gtr {x y : Operand} {t t' : TypeId} {k : IntKind} {a b : Int} (hx : ev f x = some (.int k a)) (hy : ev f y = some (.int k b)) (hk : opsS P n ops rest Q (upd f d (.bool (decide (b < a)))) L) : opsS P n ops (⟨some d, .binOp .gtr t x y t', ty, pos, af, none⟩ :: rest) Q f L :=
  opsS_pure1 (fun _ w s => by simp [execOp, s.eval hx, s.eval hy, eqGuard, binOp, Op.intCmp]) hk
theorem S.geq {x y : Operand} {t t' : TypeId} {k : IntKind} {a b : Int} (hx : ev f x = some (.int k a)) (hy : ev f y = some (.int k b)) (hk : opsS P n ops rest Q (upd f d (.bool (decide (b ≤ a)))) L) : opsS P n ops (⟨some d, .binOp .geq t x y t', ty, pos, af, none⟩ :: rest) Q f L :=
  opsS_pure1 (fun _ w s => by simp [execOp, s.eval hx, s.eval hy, eqGuard, binOp, Op.intCmp]) hk
theorem S.eqi {x y : Operand} {t t' : TypeId} {k : IntKind} {a b : Int} (hx : ev f x = some (.int k a)) (hy : ev f y = some (.int k b)) (hk : opsS P n ops rest Q (upd f d (.bool (decide (a = b)))) L) : opsS P n ops (⟨some d, .binOp .eql t x y t', ty, pos, af, none⟩ :: rest) Q f L :=
  opsS_pure1 (fun _ w s => by simp [execOp, s.eval hx, s.eval hy, eqGuard, binOp, Op.intCmp]; rfl) hk
theorem S.nei {x y : Operand} {t t' : TypeId} {k : IntKind} {a b : Int} (hx : ev f x = some (.int k a)) (hy : ev f y = some (.int k b)) (hk : opsS P n ops rest Q (upd f d (.bool (!decide (a = b)))) L) : opsS P n ops (⟨some d, .binOp .neq t x y t', ty, pos, af, none⟩ :: rest) Q f L :=
  opsS_pure1 (fun _ w s => by simp [execOp, s.eval hx, s.eval hy, eqGuard, binOp, Op.intCmp]; rfl) hk
theorem S.add {x y : Operand} {t t' : TypeId} {k : IntKind} {a b : Int} (hx : ev f x = some (.int k a)) (hy : ev f y = some (.int k b)) (hk : opsS P n ops rest Q (upd f d (.int k (k.wrap (a + b)))) L) : opsS P n ops (⟨some d, .binOp .add t x y t', ty, pos, af, none⟩ :: rest) Q f L :=
  opsS_pure1 (fun _ w s => by simp [execOp, s.eval hx, s.eval hy, eqGuard, binOp, Op.intArith]) hk
theorem S.sub {x y : Operand} {t t' : TypeId} {k : IntKind} {a b : Int} (hx : ev f x = some (.int k a)) (hy : ev f y = some (.int k b)) (hk : opsS P n ops rest Q (upd f d (.int k (k.wrap (a - b)))) L) : opsS P n ops (⟨some d, .binOp .sub t x y t', ty, pos, af, none⟩ :: rest) Q f L :=
  opsS_pure1 (fun _ w s => by simp [execOp, s.eval hx, s.eval hy, eqGuard, binOp, Op.intArith]) hk
theorem S.mul {x y : Operand} {t t' : TypeId} {k : IntKind} {a b : Int} (hx : ev f x = some (.int k a)) (hy : ev f y = some (.int k b)) (hk : opsS P n ops rest Q (upd f d (.int k (k.wrap (a * b)))) L) : opsS P n ops (⟨some d, .binOp .mul t x y t', ty, pos, af, none⟩ :: rest) Q f L :=
  opsS_pure1 (fun _ w s => by simp [execOp, s.eval hx, s.eval hy, eqGuard, binOp, Op.intArith]) hk
theorem wrap_i64 {a : Int} (h1 : -9223372036854775808 ≤ a) (h2 : a ≤ 9223372036854775807) : IntKind.i64.wrap a = a := IntWalk.i64_in a ⟨h1, h2⟩
theorem wrap_u64 {a : Int} (h1 : 0 ≤ a) (h2 : a ≤ 18446744073709551615) : IntKind.u64.wrap a = a := IntWalk.u64_in a ⟨h1, h2⟩
theorem wrap_u8 {a : Int} (h1 : 0 ≤ a) (h2 : a ≤ 255) : IntKind.u8.wrap a = a := IntWalk.u8_in a ⟨h1, h2⟩
theorem wrap_u32 {a : Int} (h1 : 0 ≤ a) (h2 : a ≤ 4294967295) : IntKind.u32.wrap a = a := IntWalk.u32_in a ⟨h1, h2⟩
theorem wrap_i32 {a : Int} (h1 : -2147483648 ≤ a) (h2 : a ≤ 2147483647) : IntKind.i32.wrap a = a := IntWalk.i32_in a ⟨h1, h2⟩
theorem S.addi {x y : Operand} {t t' : TypeId} {a b c : Int} (hx : ev f x = some (.int .i64 a)) (hy : ev f y = some (.int .i64 b)) (hc : a + b = c) (h1 : -9223372036854775808 ≤ c) (h2 : c ≤ 9223372036854775807) (hk : opsS P n ops rest Q (upd f d (.int .i64 c)) L) : opsS P n ops (⟨some d, .binOp .add t x y t', ty, pos, af, none⟩ :: rest) Q f L :=
  S.add hx hy (by rw [hc, wrap_i64 h1 h2]; exact hk)
theorem S.subi {x y : Operand} {t t' : TypeId} {a b c : Int} (hx : ev f x = some (.int .i64 a)) (hy : ev f y = some (.int .i64 b)) (hc : a - b = c) (h1 : -9223372036854775808 ≤ c) (h2 : c ≤ 9223372036854775807) (hk : opsS P n ops rest Q (upd f d (.int .i64 c)) L) : opsS P n ops (⟨some d, .binOp .sub t x y t', ty, pos, af, none⟩ :: rest) Q f L :=
  S.sub hx hy (by rw [hc, wrap_i64 h1 h2]; exact hk)
theorem S.rem {x y : Operand} {t t' : TypeId} {k : IntKind} {a b : Int} (hx : ev f x = some (.int k a)) (hy : ev f y = some (.int k b)) (hb : ¬ b = 0) (hk : opsS P n ops rest Q (upd f d (.int k (a.tmod b))) L) : opsS P n ops (⟨some d, .binOp .rem t x y t', ty, pos, af, none⟩ :: rest) Q f L :=
  opsS_pure1 (fun _ w s => by simp [execOp, s.eval hx, s.eval hy, eqGuard, binOp, Op.intDiv, hb]) hk
theorem S.quo {x y : Operand} {t t' : TypeId} {k : IntKind} {a b : Int} (hx : ev f x = some (.int k a)) (hy : ev f y = some (.int k b)) (hb : ¬ b = 0) (hk : opsS P n ops rest Q (upd f d (.int k (k.wrap (a.tdiv b)))) L) : opsS P n ops (⟨some d, .binOp .quo t x y t', ty, pos, af, none⟩ :: rest) Q f L :=
  opsS_pure1 (fun _ w s => by simp [execOp, s.eval hx, s.eval hy, eqGuard, binOp, Op.intDiv, hb]) hk
theorem S.xor {x y : Operand} {t t' : TypeId} {k : IntKind} {a b : Int} (hx : ev f x = some (.int k a)) (hy : ev f y = some (.int k b)) (hk : opsS P n ops rest Q (upd f d (.int k (k.wrap ((BitVec.ofInt k.bits a) ^^^ (BitVec.ofInt k.bits b)).toNat))) L) : opsS P n ops (⟨some d, .binOp .xor t x y t', ty, pos, af, none⟩ :: rest) Q f L :=
  opsS_pure1 (fun _ w s => by simp [execOp, s.eval hx, s.eval hy, eqGuard, binOp, Op.intBits]) hk
theorem S.not {x : Operand} {t : TypeId} {b : Bool} (hx : ev f x = some (.bool b)) (hk : opsS P n ops rest Q (upd f d (.bool (!b))) L) : opsS P n ops (⟨some d, .unOp .not t x, ty, pos, af, none⟩ :: rest) Q f L :=
  opsS_pure1 (fun _ w s => by simp [execOp, s.eval hx, Op.unary]) hk
theorem run_eqIn_bool {t : TypeId} (m : Nat) {a b : Bool} (h : P.underlying t = some .bool) (w : World) : (Op.equalIn (m + 1) t (.bool a) (.bool b)).run P w = .ok (a == b) w := by
  simp [Op.equalIn, run_underlying h]
theorem run_eqIn_ptr {t e : TypeId} (m : Nat) {a : Option Addr} (h : ∀ w, (underlying t).run P w = .ok (.pointer e) w) (w : World) : (Op.equalIn (m + 1) t (.pointer a) (.pointer none)).run P w = .ok a.isNone w := by
  cases a <;> simp [Op.equalIn, h]
theorem run_eqIn_sl {t e : TypeId} (m : Nat) {a : Option Addr} {x y x' y' : Nat} (h : ∀ w, (underlying t).run P w = .ok (.slice e) w) (w : World) : (Op.equalIn (m + 1) t (.slice a x y) (.slice none x' y')).run P w = .ok a.isNone w := by
  cases a <;> simp [Op.equalIn, h]
theorem run_eqIn_map {t k e : TypeId} (m : Nat) {a : Option Nat} (h : ∀ w, (underlying t).run P w = .ok (.map k e) w) (w : World) : (Op.equalIn (m + 1) t (.map a) (.map none)).run P w = .ok a.isNone w := by
  cases a <;> simp [Op.equalIn, h]
class BoolTy (P : Program) (t : TypeId) : Prop where
  und : P.underlying t = some .bool
theorem S.eqb {x y : Operand} {t t' : TypeId} [h : BoolTy P t] {a b : Bool} (hx : ev f x = some (.bool a)) (hy : ev f y = some (.bool b)) (hk : opsS P n ops rest Q (upd f d (.bool (a == b))) L) : opsS P n ops (⟨some d, .binOp .eql t x y t', ty, pos, af, none⟩ :: rest) Q f L :=
  opsS_pure1 (fun _ w s => by
    have e : (Op.equal t (.bool a) (.bool b)).run P w = .ok (a == b) w := run_eqIn_bool 9999 h.und w
    simp [execOp, s.eval hx, s.eval hy, eqGuard, binOp, e]) hk
theorem S.neb {x y : Operand} {t t' : TypeId} [h : BoolTy P t] {a b : Bool} (hx : ev f x = some (.bool a)) (hy : ev f y = some (.bool b)) (hk : opsS P n ops rest Q (upd f d (.bool (!(a == b)))) L) : opsS P n ops (⟨some d, .binOp .neq t x y t', ty, pos, af, none⟩ :: rest) Q f L :=
  opsS_pure1 (fun _ w s => by
    have e : (Op.equal t (.bool a) (.bool b)).run P w = .ok (a == b) w := run_eqIn_bool 9999 h.und w
    simp [execOp, s.eval hx, s.eval hy, eqGuard, binOp, e]) hk
theorem S.eqp {x y : Operand} {t t' e : TypeId} [h : PtrTy P t e] {a : Option Addr} (hx : ev f x = some (.pointer a)) (hy : ev f y = some (.pointer none)) (hk : opsS P n ops rest Q (upd f d (.bool a.isNone)) L) : opsS P n ops (⟨some d, .binOp .eql t x y t', ty, pos, af, none⟩ :: rest) Q f L :=
  opsS_pure1 (fun _ w s => by
    have e : (Op.equal t (.pointer a) (.pointer none)).run P w = .ok (a.isNone) w := run_eqIn_ptr 9999 h.und w
    simp [execOp, s.eval hx, s.eval hy, eqGuard, binOp, e]) hk
theorem S.nep {x y : Operand} {t t' e : TypeId} [h : PtrTy P t e] {a : Option Addr} (hx : ev f x = some (.pointer a)) (hy : ev f y = some (.pointer none)) (hk : opsS P n ops rest Q (upd f d (.bool (!a.isNone))) L) : opsS P n ops (⟨some d, .binOp .neq t x y t', ty, pos, af, none⟩ :: rest) Q f L :=
  opsS_pure1 (fun _ w s => by
    have e : (Op.equal t (.pointer a) (.pointer none)).run P w = .ok (a.isNone) w := run_eqIn_ptr 9999 h.und w
    simp [execOp, s.eval hx, s.eval hy, eqGuard, binOp, e]) hk
theorem S.eqs {x y : Operand} {t t' e : TypeId} [h : SlTy P t e] {a : Option Addr} {m c m' c' : Nat} (hx : ev f x = some (.slice a m c)) (hy : ev f y = some (.slice none m' c')) (hk : opsS P n ops rest Q (upd f d (.bool a.isNone)) L) : opsS P n ops (⟨some d, .binOp .eql t x y t', ty, pos, af, none⟩ :: rest) Q f L :=
  opsS_pure1 (fun _ w s => by
    have e : (Op.equal t (.slice a m c) (.slice none m' c')).run P w = .ok (a.isNone) w := run_eqIn_sl 9999 h.und w
    simp [execOp, s.eval hx, s.eval hy, eqGuard, binOp, e]) hk
theorem S.nes {x y : Operand} {t t' e : TypeId} [h : SlTy P t e] {a : Option Addr} {m c m' c' : Nat} (hx : ev f x = some (.slice a m c)) (hy : ev f y = some (.slice none m' c')) (hk : opsS P n ops rest Q (upd f d (.bool (!a.isNone))) L) : opsS P n ops (⟨some d, .binOp .neq t x y t', ty, pos, af, none⟩ :: rest) Q f L :=
  opsS_pure1 (fun _ w s => by
    have e : (Op.equal t (.slice a m c) (.slice none m' c')).run P w = .ok (a.isNone) w := run_eqIn_sl 9999 h.und w
    simp [execOp, s.eval hx, s.eval hy, eqGuard, binOp, e]) hk
def str (l : List UInt8) : Value := .string ⟨l.toArray⟩
theorem S.eqst {x y : Operand} {t t' : TypeId} {a b : List UInt8} (hx : ev f x = some (str a)) (hy : ev f y = some (str b)) (hk : opsS P n ops rest Q (upd f d (.bool (decide (a = b)))) L) : opsS P n ops (⟨some d, .binOp .eql t x y t', ty, pos, af, none⟩ :: rest) Q f L :=
  opsS_pure1 (v := .bool (decide (a = b))) (fun _ w s => by
    have h1 := s.eval hx
    have h2 := s.eval hy
    unfold str at h1 h2
    have e : (a == b) = decide (a = b) := by by_cases h : a = b <;> simp [h]
    simp [execOp, h1, h2, eqGuard, binOp, Op.stringOp, e]) hk
theorem S.nest {x y : Operand} {t t' : TypeId} {a b : List UInt8} (hx : ev f x = some (str a)) (hy : ev f y = some (str b)) (hk : opsS P n ops rest Q (upd f d (.bool (!decide (a = b)))) L) : opsS P n ops (⟨some d, .binOp .neq t x y t', ty, pos, af, none⟩ :: rest) Q f L :=
  opsS_pure1 (v := .bool (!decide (a = b))) (fun _ w s => by
    have h1 := s.eval hx
    have h2 := s.eval hy
    unfold str at h1 h2
    have e : (a == b) = decide (a = b) := by by_cases h : a = b <;> simp [h]
    simp [execOp, h1, h2, eqGuard, binOp, Op.stringOp, e]) hk
/-! Conversions of integers. -/
theorem S.cvi {x : Operand} {t t' : TypeId} {k k' : IntKind} {a : Int} [h0 : HasUnd P t] [h : IntTy P t' k'] (hx : ev f x = some (.int k a)) (hk : opsS P n ops rest Q (upd f d (.int k' (k'.wrap a))) L) : opsS P n ops (⟨some d, .convert t t' x, ty, pos, af, none⟩ :: rest) Q f L := by
  obtain ⟨d0, hd⟩ := h0.und
  exact opsS_pure1 (fun _ w s => by simp [execOp, s.eval hx, convert, hd, h.und, Conv.intToInt]) hk

/-! Places. -/
theorem S.fa {x : Operand} {t i : Nat} {b o off sz : Nat} {ag : Bool} {fs : List (Nat × Nat × Bool)} [h : StTy P t fs] (hx : ev f x = some (.pointer (some ⟨b, o, none⟩))) (hf : fs[i]? = some (off, sz, ag)) (hz : sz ≠ 0)
    (hk : opsS P n ops rest Q (upd f d (.pointer (some ⟨b, o + off, none⟩))) L) : opsS P n ops (⟨some d, .fieldAddr t x i, ty, pos, af, none⟩ :: rest) Q f L := by
  obtain ⟨fields, hu, _, hfs⟩ := h.und
  obtain ⟨fld, h1, h2, h3, _⟩ := hfs i off sz ag hf
  refine opsS_pure1 (v := .pointer (some ⟨b, o + off, none⟩)) (fun _ w s => ?_) hk
  have : (⟨b, o, none⟩ : Addr).add off = ⟨b, o + off, none⟩ := by unfold Addr.add; split <;> simp_all
  simp [execOp, s.eval hx, Instr.fieldAt, hu, h1, Instr.sureAddr, fieldPlace, h3, hz, h2, this]
theorem S.ia {x y : Operand} {t e : TypeId} {b o m c sz bts : Nat} {ag : Bool} {zs : List Value} {k : IntKind} {i : Int} [h : SlTy P t e] [h2 : Ty P e ag sz zs bts] (hx : ev f x = some (.slice (some ⟨b, o, none⟩) m c)) (hy : ev f y = some (.int k i))
    (h0 : 0 ≤ i) (h1 : i < m) (hk : opsS P n ops rest Q (upd f d (.pointer (some ⟨b, o + i.toNat * sz, none⟩))) L) : opsS P n ops (⟨some d, .indexAddr t x y, ty, pos, af, none⟩ :: rest) Q f L := by
  refine opsS_pure1 (v := .pointer (some ⟨b, o + i.toNat * sz, none⟩)) (fun _ w s => ?_) hk
  have : (⟨b, o, none⟩ : Addr).add (i.toNat * sz) = ⟨b, o + i.toNat * sz, none⟩ := by unfold Addr.add; split <;> simp_all
  simp [execOp, s.eval hx, s.eval hy, Instr.indexAt, asIntOf, h.und, h2.size, h0, h1, this]
theorem S.iaa {x y : Operand} {t e : TypeId} {b o len sz bts : Nat} {ag : Bool} {zs : List Value} {k : IntKind} {i : Int} [h : ArrTy P t len e] [h2 : Ty P e ag sz zs bts] (hx : ev f x = some (.pointer (some ⟨b, o, none⟩))) (hy : ev f y = some (.int k i))
    (h0 : 0 ≤ i) (h1 : i < len) (hk : opsS P n ops rest Q (upd f d (.pointer (some ⟨b, o + i.toNat * sz, none⟩))) L) : opsS P n ops (⟨some d, .indexAddr t x y, ty, pos, af, none⟩ :: rest) Q f L := by
  refine opsS_pure1 (v := .pointer (some ⟨b, o + i.toNat * sz, none⟩)) (fun _ w s => ?_) hk
  have : (⟨b, o, none⟩ : Addr).add (i.toNat * sz) = ⟨b, o + i.toNat * sz, none⟩ := by unfold Addr.add; split <;> simp_all
  simp [execOp, s.eval hx, s.eval hy, Instr.indexAt, asIntOf, h.und, h2.size, h0, h1, this, Instr.sureAddr]
theorem S.sl {x : Operand} {t e : TypeId} {a : Option Addr} {m c sz bts : Nat} {ag : Bool} {zs : List Value} {lo hi : Option Operand} {l h : Int} {kl kh : IntKind} [hs : SlTy P t e] [h2 : Ty P e ag sz zs bts] (hx : ev f x = some (.slice a m c))
    (hl : (match lo with | some y => ev f y | none => some (.int kl 0)) = some (.int kl l)) (hh : (match hi with | some y => ev f y | none => some (.int kh m)) = some (.int kh h))
    (h0 : 0 ≤ l) (h1 : l ≤ h) (h3 : h ≤ c)
    (hk : opsS P n ops rest Q (upd f d (.slice (if c = l.toNat then a else a.map (·.add (l.toNat * sz))) (h.toNat - l.toNat) (c - l.toNat))) L) : opsS P n ops (⟨some d, .slice t x lo hi none, ty, pos, af, none⟩ :: rest) Q f L := by
  refine opsS_pure1 (v := .slice (if c = l.toNat then a else a.map (·.add (l.toNat * sz))) (h.toNat - l.toNat) (c - l.toNat)) (fun _ w s => ?_) hk
  have hh0 : 0 ≤ h := by omega
  have e1 : l ≤ (h.toNat : Int) := by omega
  cases lo with
  | none =>
    simp only [Option.some.injEq, Value.int.injEq, true_and] at hl
    subst hl
    cases hi with
    | none =>
      simp only [Option.some.injEq, Value.int.injEq, true_and] at hh
      subst hh
      simp [execOp, s.eval hx, Instr.sliceAt, hs.und, Instr.slice, Instr.sliceBounds, h2.size]
    | some y => simp [execOp, s.eval hx, s.eval hh, Instr.sliceAt, hs.und, Instr.slice, Instr.sliceBounds, h2.size, Instr.sliceBound, asIntOf, hh0, h3]
  | some z =>
    cases hi with
    | none =>
      simp only [Option.some.injEq, Value.int.injEq, true_and] at hh
      subst hh
      have h1' : l ≤ (m : Int) := h1
      simp [execOp, s.eval hx, s.eval hl, Instr.sliceAt, hs.und, Instr.slice, Instr.sliceBounds, h2.size, Instr.sliceBound, asIntOf, h0, h1']
    | some y =>
      have e2 : l ≤ max h 0 := by omega
      simp [execOp, s.eval hx, s.eval hh, s.eval hl, Instr.sliceAt, hs.und, Instr.slice, Instr.sliceBounds, h2.size, Instr.sliceBound, asIntOf, hh0, h3, h0, e1, e2]

/-! Loads. -/
theorem run_loadVar1 {t : TypeId} {sz bts : Nat} {zs : List Value} [h : Ty P t false sz zs bts] {b o : Nat} {v : Value} {w : World} (hc : w.cell? ⟨b, o, none⟩ = some v) : (Instr.loadAt t (.pointer (some ⟨b, o, none⟩))).run P w = .ok v w := by
  simp [Instr.loadAt, Instr.sureAddr, loadVar, h.agg, hc]
theorem run_loadVarN {t : TypeId} {sz bts : Nat} {zs : List Value} [h : Ty P t true sz zs bts] {b o : Nat} {cs : List Value} {w : World} (hn : cs.length = sz) (hc : ∀ j v, cs[j]? = some v → w.cell? ⟨b, o + j, none⟩ = some v) : (Instr.loadAt t (.pointer (some ⟨b, o, none⟩))).run P w = .ok (.agg cs.toArray) w := by
  have := run_loadCells_list (P := P) w ⟨b, o, none⟩ cs (fun j v e => by
    have := hc j v e
    have e2 : (⟨b, o, none⟩ : Addr).add j = ⟨b, o + j, none⟩ := by unfold Addr.add; split <;> simp_all
    rw [e2]; exact this)
  simp [Instr.loadAt, Instr.sureAddr, loadVar, h.agg, h.size, ← hn, this]
theorem S.ldR {x : Operand} {t : TypeId} {sz bts : Nat} {zs : List Value} {b o : Nat} {v : Value} [h : Ty P t false sz zs bts] (hx : ev f x = some (.pointer (some ⟨b, o, none⟩))) (hr : RdC L b o [v])
    (hk : opsS P n ops rest Q (upd f d v) L) : opsS P n ops (⟨some d, .load t x, ty, pos, af, none⟩ :: rest) Q f L :=
  opsS_value (R := fun u L' => u = v ∧ L' = L) (fun F a w s t => ⟨v, w, L, by
    have := run_loadVar1 (h := h) (hr w F t 0 v rfl)
    rw [Nat.add_zero] at this
    simp [execOp, s.eval hx, this], t, rfl, rfl⟩) (by rintro _ _ ⟨rfl, rfl⟩; exact hk)
theorem S.ldRN {x : Operand} {t : TypeId} {sz bts : Nat} {zs : List Value} {b o : Nat} {cs : List Value} [h : Ty P t true sz zs bts] (hx : ev f x = some (.pointer (some ⟨b, o, none⟩))) (hr : RdC L b o cs) (hn : cs.length = sz)
    (hk : opsS P n ops rest Q (upd f d (.agg cs.toArray)) L) : opsS P n ops (⟨some d, .load t x, ty, pos, af, none⟩ :: rest) Q f L :=
  opsS_value (R := fun u L' => u = .agg cs.toArray ∧ L' = L) (fun F a w s t => ⟨_, w, L, by
    have := run_loadVarN (h := h) hn (hr w F t)
    simp [execOp, s.eval hx, this], t, rfl, rfl⟩) (by rintro _ _ ⟨rfl, rfl⟩; exact hk)
theorem S.ld {x : Operand} {t t0 : TypeId} {sz bts : Nat} {zs : List Value} {b o : Nat} {v : Value} {l : List Value} [h : Ty P t false sz zs bts] [hb : FindB b L (cl l t0)] (hx : ev f x = some (.pointer (some ⟨b, o, none⟩))) (hv : l[o]? = some v)
    (hk : opsS P n ops rest Q (upd f d v) L) : opsS P n ops (⟨some d, .load t x, ty, pos, af, none⟩ :: rest) Q f L :=
  S.ldR hx (RdC.find (h := hb) fun j u e => by cases j <;> simp_all) hk
theorem S.ldN {x : Operand} {t t0 : TypeId} {sz bts : Nat} {zs : List Value} {b o : Nat} {cs : List Value} {l : List Value} [h : Ty P t true sz zs bts] [hb : FindB b L (cl l t0)] (hx : ev f x = some (.pointer (some ⟨b, o, none⟩))) (hv : (l.drop o).take sz = cs) (hn : cs.length = sz)
    (hk : opsS P n ops rest Q (upd f d (.agg cs.toArray)) L) : opsS P n ops (⟨some d, .load t x, ty, pos, af, none⟩ :: rest) Q f L :=
  S.ldRN hx (RdC.find (h := hb) fun j u e => by
    rw [← hv] at e
    by_cases hj : j < sz
    · rw [List.getElem?_take_of_lt hj, List.getElem?_drop] at e; exact e
    · rw [List.getElem?_take_eq_none (by omega)] at e; simp at e) hn hk
end
end Go.SX
