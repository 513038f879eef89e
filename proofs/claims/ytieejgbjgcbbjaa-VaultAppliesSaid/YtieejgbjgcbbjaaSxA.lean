/- Separation logic over the model's heap: parts of a heap, lists of assertions, states. No condition. -/
import Derived.WalkKit
set_option linter.unusedVariables false
set_option linter.unusedSimpArgs false
namespace Go.SX
open Go

/-- A part of a heap: at a block number, whether it is owned, and what lies there. -/
def Hp := Nat → Option (Bool × Obj)
def Hp.ok (h k : Hp) : Prop := ∀ b p o q o', h b = some (p, o) → k b = some (q, o') → p = false ∧ q = false ∧ o = o'
def Hp.add (h k : Hp) : Hp := fun b => (h b).or (k b)
def Hp.fits (h : Hp) (w : World) : Prop := ∀ b p o, h b = some (p, o) → w.heap[b]? = some o
/-- What of a world lies beside its memory. -/
abbrev Ext := Os × Array (Nat × ByteArray)
def ext (w : World) : Ext := (w.os, w.output)
abbrev HP := Ext → Hp → Prop
variable {g : Ext}

theorem Hp.ok_symm {h k : Hp} (H : h.ok k) : k.ok h := fun b p o q o' e1 e2 => by
  obtain ⟨a, b, c⟩ := H b q o' p o e2 e1; exact ⟨b, a, c.symm⟩
theorem Hp.add_comm {h k : Hp} (H : h.ok k) : h.add k = k.add h := by
  funext b
  simp only [Hp.add]
  cases e1 : h b with
  | none => cases e2 : k b <;> rfl
  | some x =>
    cases e2 : k b with
    | none => rfl
    | some y =>
      obtain ⟨p, o⟩ := x; obtain ⟨q, o'⟩ := y
      obtain ⟨rfl, rfl, rfl⟩ := H b p o q o' e1 e2; rfl
theorem Hp.add_assoc (h k l : Hp) : (h.add k).add l = h.add (k.add l) := by
  funext b; simp only [Hp.add]; cases h b <;> rfl
theorem Hp.ok_add_left {h k l : Hp} (H : (h.add k).ok l) : h.ok l := fun b p o q o' e1 e2 =>
  H b p o q o' (by simp [Hp.add, e1]) e2
theorem Hp.ok_add_right {h k l : Hp} (hk : h.ok k) (H : (h.add k).ok l) : k.ok l := fun b p o q o' e1 e2 => by
  refine H b p o q o' ?_ e2
  rw [Hp.add_comm hk]; simp [Hp.add, e1]
theorem Hp.ok_add {h k l : Hp} (H1 : h.ok l) (H2 : k.ok l) : (h.add k).ok l := fun b p o q o' e1 e2 => by
  simp only [Hp.add] at e1
  cases e : h b with
  | none => rw [e] at e1; exact H2 b p o q o' e1 e2
  | some x => rw [e] at e1; exact H1 b p o q o' (by rw [e]; exact e1) e2
theorem Hp.ok_add' {h k l : Hp} (H1 : h.ok k) (H2 : h.ok l) : h.ok (k.add l) := Hp.ok_symm (Hp.ok_add (Hp.ok_symm H1) (Hp.ok_symm H2))
theorem Hp.ok_left' {h k l : Hp} (H : h.ok (k.add l)) : h.ok k := Hp.ok_symm (Hp.ok_add_left (Hp.ok_symm H))
theorem Hp.ok_right' {h k l : Hp} (hk : k.ok l) (H : h.ok (k.add l)) : h.ok l := Hp.ok_symm (Hp.ok_add_right hk (Hp.ok_symm H))

theorem Hp.fits_left {h k : Hp} {w : World} (H : (h.add k).fits w) : h.fits w := fun b p o e => H b p o (by simp [Hp.add, e])
theorem Hp.fits_right {h k : Hp} {w : World} (hk : h.ok k) (H : (h.add k).fits w) : k.fits w := Hp.fits_left (Hp.add_comm hk ▸ H)
theorem Hp.fits_add {h k : Hp} {w : World} (h1 : h.fits w) (h2 : k.fits w) : (h.add k).fits w := fun b p o e => by
  simp only [Hp.add] at e
  cases e1 : h b with
  | none => rw [e1] at e; exact h2 b p o e
  | some x => rw [e1] at e; exact h1 b p o (by rw [e1]; exact e)

/-- All of a list, apart from one another; whatever is left over is dropped. -/
def sepH (g : Ext) : List HP → Hp → Prop
  | [] => fun _ => True
  | P :: L => fun h => ∃ h1 h2, h1.ok h2 ∧ h = h1.add h2 ∧ P g h1 ∧ sepH g L h2

theorem sepH_swap {A B : HP} {L : List HP} {h : Hp} (H : sepH g (A :: B :: L) h) : sepH g (B :: A :: L) h := by
  obtain ⟨h1, h2, o, rfl, a, h3, h4, o', rfl, b, l⟩ := H
  refine ⟨h3, h1.add h4, ?_, ?_, b, h1, h4, Hp.ok_right' o' o, rfl, a, l⟩
  · exact Hp.ok_add' (Hp.ok_symm (Hp.ok_left' o)) o'
  · rw [← Hp.add_assoc, ← Hp.add_assoc, Hp.add_comm (Hp.ok_left' o)]
theorem sepH_cons_mono {A : HP} {L L' : List HP} (H : ∀ h, sepH g L h → sepH g L' h) {h : Hp} (h0 : sepH g (A :: L) h) : sepH g (A :: L') h := by
  obtain ⟨h1, h2, o, rfl, a, l⟩ := h0; exact ⟨h1, h2, o, rfl, a, H _ l⟩
theorem sepH_perm {L L' : List HP} (p : L.Perm L') : ∀ {h : Hp}, sepH g L h → sepH g L' h := by
  induction p with
  | nil => exact fun H => H
  | cons x _ ih => exact fun H => sepH_cons_mono (fun _ => ih) H
  | swap x y l => exact fun H => sepH_swap H
  | trans _ _ ih1 ih2 => exact fun H => ih2 (ih1 H)
theorem sepH_tail {A : HP} {L : List HP} {h : Hp} (H : sepH g (A :: L) h) : ∃ k, sepH g L k ∧ ∀ w, h.fits w → k.fits w := by
  obtain ⟨h1, h2, o, rfl, _, l⟩ := H; exact ⟨h2, l, fun w => Hp.fits_right o⟩
theorem sepH_append {L M : List HP} : ∀ {h : Hp}, sepH g (L ++ M) h ↔ ∃ h1 h2, h1.ok h2 ∧ h = h1.add h2 ∧ sepH g L h1 ∧ sepH g M h2 := by
  induction L with
  | nil =>
    intro h
    constructor
    · intro H
      refine ⟨fun _ => none, h, ?_, ?_, trivial, H⟩
      · intro b p o q o' e; simp at e
      · funext b; simp [Hp.add]
    · rintro ⟨h1, h2, o, rfl, _, H⟩
      cases M with
      | nil => trivial
      | cons A M =>
        obtain ⟨h3, h4, o', rfl, a, m⟩ := H
        refine ⟨h3, h4.add h1, ?_, ?_, a, ?_⟩
        · exact Hp.ok_add' o' (Hp.ok_symm (Hp.ok_left' o))
        · rw [Hp.add_comm o, Hp.add_assoc]
        · -- what is left over is dropped
          revert m
          have : ∀ (M : List HP) (k l : Hp), k.ok l → sepH g M k → sepH g M (k.add l) := by
            intro M
            induction M with
            | nil => intros; trivial
            | cons B M ih =>
              rintro k l ok ⟨k1, k2, o2, rfl, b, m⟩
              exact ⟨k1, k2.add l, Hp.ok_add' o2 (Hp.ok_add_left ok), by rw [Hp.add_assoc], b, ih _ _ (Hp.ok_add_right o2 ok) m⟩
          intro m
          exact this M h4 h1 (Hp.ok_symm (Hp.ok_right' o' o)) m
  | cons A L ih =>
    intro h
    constructor
    · rintro ⟨h1, h2, o, rfl, a, H⟩
      obtain ⟨h3, h4, o', rfl, l, m⟩ := ih.1 H
      exact ⟨h1.add h3, h4, Hp.ok_add (Hp.ok_right' o' o) o', by rw [Hp.add_assoc], ⟨h1, h3, Hp.ok_left' o, rfl, a, l⟩, m⟩
    · rintro ⟨h1, h2, o, rfl, ⟨h3, h4, o', rfl, a, l⟩, m⟩
      refine ⟨h3, h4.add h2, Hp.ok_add' o' (Hp.ok_add_left o), by rw [Hp.add_assoc], a, ih.2 ⟨h4, h2, Hp.ok_add_right o' o, rfl, l, m⟩⟩
theorem sepH_extra {M : List HP} {k l : Hp} (ok : k.ok l) (m : sepH g M k) : sepH g M (k.add l) := by
  have := (sepH_append (L := M) (M := [])).2 ⟨k, l, ok, rfl, m, trivial⟩
  simpa using this

/-- The list holds of the world's heap. -/
def St (w : World) (L : List HP) : Prop := ∃ h : Hp, h.fits w ∧ sepH (ext w) L h

/-- From one list to another, in every world, whatever else there is. -/
def Ent (L L' : List HP) : Prop := ∀ w F, St w (L ++ F) → St w (L' ++ F)
theorem St.perm {w : World} {L L' : List HP} (p : L.Perm L') (H : St w L) : St w L' := by
  obtain ⟨h, f, s⟩ := H; exact ⟨h, f, sepH_perm p s⟩
theorem St.heap {w w' : World} {L : List HP} (h : w'.heap = w.heap) (H : St w L) (he : ext w' = ext w := by rfl) : St w' L := by
  obtain ⟨h0, f, s⟩ := H; exact ⟨h0, fun b p o e => by rw [h]; exact f b p o e, by rw [he]; exact s⟩
theorem St.of_sep {w : World} {L L' : List HP} (h : ∀ k, sepH (ext w) L k → sepH (ext w) L' k) (H : St w L) : St w L' := by
  obtain ⟨h0, f, s⟩ := H; exact ⟨h0, f, h _ s⟩
theorem St.tail {w : World} {A : HP} {L : List HP} (H : St w (A :: L)) : St w L := by
  obtain ⟨h, f, h1, h2, o, rfl, a, l⟩ := H; exact ⟨h2, Hp.fits_right o f, l⟩
theorem St.drop_left {w : World} {M : List HP} : ∀ {L : List HP}, St w (L ++ M) → St w M
  | [], H => H
  | _ :: L, H => St.drop_left (L := L) H.tail
theorem St.drop_all (w : World) : St w [] := ⟨(fun _ => none : Nat → Option (Bool × Obj)), fun b p o e => by simp at e, trivial⟩
theorem Ent.refl (L : List HP) : Ent L L := fun _ _ H => H
theorem Ent.trans {L M N : List HP} (h1 : Ent L M) (h2 : Ent M N) : Ent L N := fun _ _ H => h2 _ _ (h1 _ _ H)
theorem Ent.perm {L L' : List HP} (p : L.Perm L') : Ent L L' := fun _ F H => St.perm (p.append_right F) H
theorem Ent.nil {L : List HP} : Ent L [] := fun _ _ H => St.drop_left H
theorem Ent.cons {A : HP} {L L' : List HP} (h : Ent L L') : Ent (A :: L) (A :: L') := fun w F H =>
  St.perm List.perm_middle (h w (A :: F) (St.perm List.perm_middle.symm H))
theorem Ent.drop {A : HP} {L L' : List HP} (h : Ent L L') : Ent (A :: L) L' := fun w F H => h w F H.tail
theorem Ent.app {L L' M : List HP} (h : Ent L L') : Ent (L ++ M) (L' ++ M) := fun w F H => by
  rw [List.append_assoc] at H ⊢; exact h w (M ++ F) H
theorem Ent.app_left {L M M' : List HP} (h : Ent M M') : Ent (L ++ M) (L ++ M') := by
  induction L with
  | nil => exact h
  | cons A L ih => exact ih.cons
theorem Ent.app2 {L L' M M' : List HP} (h : Ent L L') (h' : Ent M M') : Ent (L ++ M) (L' ++ M') := h.app.trans h'.app_left
theorem Ent.app_nil {L L' : List HP} (h : Ent L L') : Ent (L ++ []) L' := by simpa using h

/-- Several assertions as one; one of a family; a plain fact. -/
def allH (L : List HP) : HP := fun g => sepH g L
def exH {α : Sort _} (P : α → HP) : HP := fun g h => ∃ x, P x g h
def pureH (φ : Prop) : HP := fun _ _ => φ
theorem Ent.open_all {L M : List HP} : Ent (allH L :: M) (L ++ M) := fun _ F H => by
  rw [List.append_assoc]; exact St.of_sep (L := allH L :: (M ++ F)) (fun _ h => sepH_append.2 h) H
theorem Ent.shut_all {L M : List HP} : Ent (L ++ M) (allH L :: M) := fun _ F H => by
  rw [List.append_assoc] at H; exact St.of_sep (fun _ h => sepH_append.1 h) H
theorem Ent.shut_ex {α : Sort _} {P : α → HP} (x : α) {M : List HP} : Ent (P x :: M) (exH P :: M) := fun _ F H =>
  St.of_sep (L := P x :: (M ++ F)) (fun h ⟨h1, h2, o, e, p, m⟩ => ⟨h1, h2, o, e, ⟨x, p⟩, m⟩) H
theorem St.open_ex {α : Sort _} {P : α → HP} {w : World} {M : List HP} (H : St w (exH P :: M)) : ∃ x, St w (P x :: M) := by
  obtain ⟨h0, f, h1, h2, o, e, ⟨x, p⟩, m⟩ := H; exact ⟨x, h0, f, h1, h2, o, e, p, m⟩
theorem Ent.shut_pure {φ : Prop} (h : φ) {M : List HP} : Ent M (pureH φ :: M) := fun _ F H =>
  St.of_sep (fun hh H => ⟨(fun _ => none : Nat → Option (Bool × Obj)), hh, fun b p o q o' e => by simp at e, by funext b; simp [Hp.add], h, H⟩) H
theorem St.open_pure {φ : Prop} {w : World} {M : List HP} (H : St w (pureH φ :: M)) : φ ∧ St w M := by
  refine ⟨?_, H.tail⟩
  obtain ⟨h0, f, h1, h2, o, e, p, m⟩ := H; exact p

/-- A block that is owned; one that nobody writes any more. -/
def pt (b : Nat) (o : Obj) : HP := fun _ h => h b = some (true, o)
def ro (b : Nat) (o : Obj) : HP := fun _ h => h b = some (false, o)

theorem St.read_cons {w : World} {A : HP} {L : List HP} (H : St w (A :: L)) : ∃ h, h.fits w ∧ A (ext w) h := by
  obtain ⟨h, f, h1, h2, o, rfl, a, l⟩ := H; exact ⟨h1, Hp.fits_left f, a⟩
theorem St.pt_read {w : World} {b : Nat} {o : Obj} {L : List HP} (H : St w (pt b o :: L)) : w.heap[b]? = some o := by
  obtain ⟨h, f, a⟩ := H.read_cons; exact f b _ _ a
theorem St.ro_read {w : World} {b : Nat} {o : Obj} {L : List HP} (H : St w (ro b o :: L)) : w.heap[b]? = some o := by
  obtain ⟨h, f, a⟩ := H.read_cons; exact f b _ _ a

/-- An owned block is written. -/
theorem St.pt_write {w w' : World} {b : Nat} {o o' : Obj} {L : List HP} (H : St w (pt b o :: L)) (hb : w'.heap[b]? = some o')
    (hk : ∀ k, k ≠ b → w'.heap[k]? = w.heap[k]?) (he : ext w' = ext w := by rfl) : St w' (pt b o' :: L) := by
  obtain ⟨h, f, h1, h2, ok, rfl, a, l⟩ := H
  rw [← he] at l
  have a' : h1 b = some (true, o) := a
  have none2 : h2 b = none := by
    cases e : h2 b with
    | none => rfl
    | some x => obtain ⟨q, o2⟩ := x; exact absurd (ok b _ _ _ _ a' e).1 (by simp)
  refine ⟨Hp.add (fun k => if k = b then some (true, o') else h1 k) h2, ?_, _, h2, ?_, rfl, by simp [pt], l⟩
  · refine Hp.fits_add ?_ ?_
    · intro k p ob e
      by_cases hkb : k = b
      · subst hkb; simp at e; rw [hb]; rw [e.2]
      · simp [hkb] at e; rw [hk k hkb]; exact Hp.fits_left f k p ob e
    · intro k p ob e
      have hkb : k ≠ b := fun h => by subst h; rw [none2] at e; simp at e
      rw [hk k hkb]; exact Hp.fits_right ok f k p ob e
  · intro k p ob q o2 e1 e2
    have hkb : k ≠ b := fun h => by subst h; rw [none2] at e2; simp at e2
    simp [hkb] at e1
    exact ok k p ob q o2 e1 e2

/-- A block that is new. -/
theorem St.pt_new {w w' : World} {o : Obj} {L : List HP} (H : St w L) (hh : w'.heap = w.heap.push o) (he : ext w' = ext w := by rfl) : St w' (pt w.heap.size o :: L) := by
  obtain ⟨h, f, l⟩ := H
  rw [← he] at l
  have noneh : h w.heap.size = none := by
    cases e : h w.heap.size with
    | none => rfl
    | some x => obtain ⟨q, o2⟩ := x; have := f _ _ _ e; simp at this
  refine ⟨Hp.add (fun k => if k = w.heap.size then some (true, o) else none) h, ?_, _, h, ?_, rfl, by simp [pt], l⟩
  · refine Hp.fits_add ?_ ?_
    · intro k p ob e
      by_cases hk : k = w.heap.size
      · subst hk; simp at e; rw [hh]; simp [e.2]
      · simp [hk] at e
    · intro k p ob e
      have := f k p ob e
      have hlt : k < w.heap.size := (Array.getElem?_eq_some_iff.1 this).1
      rw [hh, Array.getElem?_push_lt hlt, ← this, Array.getElem?_eq_getElem hlt]
  · intro k p ob q o2 e1 e2
    by_cases hk : k = w.heap.size
    · subst hk; rw [noneh] at e2; simp at e2
    · simp [hk] at e1

/-- What is owned can be given up for writing; what nobody writes can be told twice. -/
theorem Ent.shed {b : Nat} {o : Obj} {L : List HP} : Ent (pt b o :: L) (ro b o :: L) := fun w F H => by
  obtain ⟨h, f, h1, h2, ok, rfl, a, l⟩ := H
  have a' : h1 b = some (true, o) := a
  have none2 : h2 b = none := by
    cases e : h2 b with
    | none => rfl
    | some x => obtain ⟨q, o2⟩ := x; exact absurd (ok b _ _ _ _ a' e).1 (by simp)
  refine ⟨Hp.add (fun k => if k = b then some (false, o) else h1 k) h2, ?_, _, h2, ?_, rfl, by simp [ro], l⟩
  · refine Hp.fits_add ?_ (Hp.fits_right ok f)
    intro k p ob e
    by_cases hkb : k = b
    · subst hkb; simp at e; rw [← e.2]; exact Hp.fits_left f k _ _ a'
    · simp [hkb] at e; exact Hp.fits_left f k p ob e
  · intro k p ob q o2 e1 e2
    have hkb : k ≠ b := fun h => by subst h; rw [none2] at e2; simp at e2
    simp [hkb] at e1
    exact ok k p ob q o2 e1 e2
theorem Ent.dup {b : Nat} {o : Obj} {L : List HP} : Ent (ro b o :: L) (ro b o :: ro b o :: L) := fun w F H => by
  refine St.of_sep (fun hh H => ?_) H
  obtain ⟨h1, h2, ok, rfl, a, l⟩ := H
  have a' : h1 b = some (false, o) := a
  refine ⟨fun k => if k = b then some (false, o) else none, h1.add h2, ?_, ?_, by simp [ro], h1, h2, ok, rfl, a, l⟩
  · intro k p ob q o2 e1 e2
    by_cases hk : k = b
    · subst hk
      simp at e1
      simp [Hp.add, a'] at e2
      exact ⟨e1.1, e2.1, e1.2 ▸ e2.2 ▸ rfl⟩
    · simp [hk] at e1
  · funext k
    simp only [Hp.add]
    by_cases hk : k = b
    · subst hk; simp [a']
    · simp [hk]

end Go.SX
