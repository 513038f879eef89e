/- Weakest preconditions over lists of assertions: codes, loops, operations one by one, calls. No condition. -/
import Derived.Test.YtieejgbjgcbbjaaSxA
set_option linter.unusedVariables false
set_option linter.unusedSimpArgs false
namespace Go.SX
open Go

/-- What the temporaries are known to hold. -/
abbrev Env := Nat → Option Value
def e0 : Env := fun _ => none
def upd (f : Env) (i : Nat) (v : Value) : Env := fun j => bif Nat.beq j i then some v else f j
def updAll : List (Nat × Value) → Env
  | [] => e0
  | (i, v) :: l => upd (updAll l) i v
def slots (f : Env) : List (Nat × Value) → Prop
  | [] => True
  | (i, v) :: l => f i = some v ∧ slots f l
theorem updAll_le {f : Env} : ∀ {l : List (Nat × Value)}, slots f l → ∀ i v, updAll l i = some v → f i = some v
  | [], _, i, v, h => by simp [updAll, e0] at h
  | (i, u) :: l, ⟨h1, h2⟩, j, v, h => by
    simp only [updAll, upd] at h
    cases hb : Nat.beq j i with
    | false => rw [hb] at h; exact updAll_le h2 j v h
    | true => rw [hb] at h; rw [Nat.eq_of_beq_eq_true hb, h1]; exact h
def ev (f : Env) : Operand → Option Value
  | .tmp t => f t
  | .const v => some v
  | .global g => some (.pointer (some ⟨g, 0, none⟩))
  | .func g => some (.func (.func g) #[] #[])
def updo (f : Env) : Option Nat → Value → Env
  | some d, v => upd f d v
  | none, _ => f

/-- The frame of temporaries holds what the environment says. -/
structure Sim (n : Nat) (a : Act) (f : Env) : Prop where
  defers : a.defers = []
  size : a.tmps.size = n
  at_ : ∀ i v, f i = some v → a.tmps.getD i undef = v
theorem Sim.eval {n : Nat} {a : Act} {f : Env} (h : Sim n a f) : ∀ {x : Operand} {v : Value}, ev f x = some v → a.eval x = v
  | .tmp t, v, hx => h.at_ t v hx
  | .const u, v, hx => by simpa [ev, Act.eval] using hx
  | .global g, v, hx => by simpa [ev, Act.eval] using hx
  | .func g, v, hx => by simpa [ev, Act.eval] using hx
theorem Sim.weaken {n : Nat} {a : Act} {f g : Env} (h : Sim n a f) (H : ∀ i v, g i = some v → f i = some v) : Sim n a g :=
  ⟨h.defers, h.size, fun i v e => h.at_ i v (H i v e)⟩
theorem Sim.put {n : Nat} {a : Act} {f : Env} (h : Sim n a f) {d : Option Nat} (hd : d.all (fun d => decide (d < n)) = true) (v : Value) : Sim n (a.put d v) (updo f d v) := by
  cases d with
  | none => exact h
  | some d =>
    have hd : d < n := by simpa using hd
    refine ⟨h.defers, by simp [Act.put, h.size], fun i u e => ?_⟩
    have hi := h.at_ i u
    simp only [Act.put, updo, upd] at e ⊢
    cases hb : Nat.beq i d with
    | true =>
      rw [hb] at e
      have : i = d := Nat.eq_of_beq_eq_true hb
      subst this
      simp at e
      simp [Array.getD_eq_getD_getElem?, h.size, hd, e]
    | false =>
      rw [hb] at e
      have hne : ¬ d = i := fun e => by subst e; simp at hb
      have := hi e
      simp only [Array.getD_eq_getD_getElem?, Array.getElem?_setIfInBounds, hne, if_false] at this ⊢
      exact this

abbrev Post := Exit → Env → List HP → Prop
def lift (n : Nat) (F : List HP) (Q : Post) : Exit → Act → World → Prop := fun e a w => ∃ f L, Sim n a f ∧ St w (L ++ F) ∧ Q e f L

/-- Each slot that is written lies in the frame. -/
def okOps (n : Nat) (l : List Oper) : Bool := l.all fun o => o.dst.all (fun d => decide (d < n))
def okCode (n : Nat) : Code → Bool
  | .region _ ops _ => okOps n ops.toList
  | .seq a b => okCode n a && okCode n b
  | .cond _ a b => okCode n a && okCode n b
  | .block _ c => okCode n c
  | .loop c => okCode n c
  | .scope c => okCode n c
  | _ => true

variable (P : Program) (n : Nat)
def swp (c : Code) (Q : Post) (f : Env) (L : List HP) : Prop :=
  okCode n c = true → ∀ F a w, Sim n a f → St w (L ++ F) → c.wp P (lift n F Q) a w
def opsS (ops : List Oper) (rest : List Oper) (Q : Post) (f : Env) (L : List HP) : Prop :=
  okOps n rest = true → ∀ F a w, Sim n a f → St w (L ++ F) → wpList P ops.toArray (lift n F Q) rest a w
/-- A call: it returns, and what there was beside stays. -/
def CallsS (g : FuncId) (args : List Value) (L : List HP) (R : Value → List HP → Prop) : Prop :=
  ∀ F w, St w (L ++ F) → Calls P g args.toArray w fun e w' => ∃ v L', e = .returned v ∧ St w' (L' ++ F) ∧ R v L'

variable {P n}
def thenS (K : Env → List HP → Prop) (Q : Post) : Post
  | .normal, f, L => K f L
  | e, f, L => Q e f L
def blockS (id : Nat) (Q : Post) : Post
  | .exit j, f, L => bif Nat.beq j id then Q .normal f L else Q (.exit j) f L
  | e, f, L => Q e f L

section codes
variable {Q : Post} {f : Env} {L : List HP}

theorem swp_mono {c : Code} {Q' : Post} (h : swp P n c Q f L) (hq : ∀ e f L, Q e f L → Q' e f L) : swp P n c Q' f L :=
  fun ok F a w s t => wp_mono (h ok F a w s t) fun _ _ _ ⟨f, L, s, t, q⟩ => ⟨f, L, s, t, hq _ _ _ q⟩
theorem swp_ent {c : Code} {L' : List HP} (h : Ent L L') (H : swp P n c Q f L') : swp P n c Q f L :=
  fun ok F a w s t => H ok F a w s (h w F t)
theorem opsS_ent {ops : List Oper} {rest : List Oper} {L' : List HP} (h : Ent L L') (H : opsS P n ops rest Q f L') : opsS P n ops rest Q f L :=
  fun ok F a w s t => H ok F a w s (h w F t)
theorem swp_ex {α : Sort _} {c : Code} {X : α → HP} (H : ∀ x, swp P n c Q f (X x :: L)) : swp P n c Q f (exH X :: L) :=
  fun ok F a w s t => let ⟨x, t⟩ := St.open_ex t; H x ok F a w s t
theorem swp_pure {c : Code} {φ : Prop} (H : φ → swp P n c Q f L) : swp P n c Q f (pureH φ :: L) :=
  fun ok F a w s t => let ⟨x, t⟩ := St.open_pure t; H x ok F a w s t
theorem opsS_ex {α : Sort _} {ops : List Oper} {rest : List Oper} {X : α → HP} (H : ∀ x, opsS P n ops rest Q f (X x :: L)) : opsS P n ops rest Q f (exH X :: L) :=
  fun ok F a w s t => let ⟨x, t⟩ := St.open_ex t; H x ok F a w s t
theorem opsS_pure {ops : List Oper} {rest : List Oper} {φ : Prop} (H : φ → opsS P n ops rest Q f L) : opsS P n ops rest Q f (pureH φ :: L) :=
  fun ok F a w s t => let ⟨x, t⟩ := St.open_pure t; H x ok F a w s t

theorem swp_skip (h : Q .normal f L) : swp P n .skip Q f L := fun _ _ _ _ s t => wp_skip ⟨f, L, s, t, h⟩
theorem swp_ret (h : Q .ret f L) : swp P n .ret Q f L := fun _ _ _ _ s t => wp_ret ⟨f, L, s, t, h⟩
theorem swp_exit {id : Nat} (h : Q (.exit id) f L) : swp P n (.exit id) Q f L := fun _ _ _ _ s t => wp_exit ⟨f, L, s, t, h⟩
theorem swp_label {l : Nat} (h : Q .normal f L) : swp P n (.label l) Q f L := fun _ _ _ _ s t => wp_label ⟨f, L, s, t, h⟩
theorem swp_seq {x y : Code} (h : swp P n x (thenS (fun f L => swp P n y Q f L) Q) f L) : swp P n (.seq x y) Q f L := by
  intro ok F a w s t
  simp only [okCode, Bool.and_eq_true] at ok
  refine wp_seq (wp_mono (h ok.1 F a w s t) ?_)
  rintro e a w ⟨f, L, s, t, q⟩
  cases e <;> first | exact q ok.2 F _ _ s t | exact ⟨f, L, s, t, q⟩
theorem swp_block {id : Nat} {c : Code} (h : swp P n c (blockS id Q) f L) : swp P n (.block id c) Q f L := by
  intro ok F a w s t
  refine wp_block (wp_mono (h ok F a w s t) ?_)
  rintro e a w ⟨f, L, s, t, q⟩
  cases e with
  | exit j =>
    simp only [Exit.inBlock]
    by_cases h : j = id
    · subst h; simp only [blockS] at q; rw [if_pos rfl]
      exact ⟨f, L, s, t, by simpa using q⟩
    · rw [if_neg h]
      have : Nat.beq j id = false := by cases hb : Nat.beq j id with | false => rfl | true => exact absurd (Nat.eq_of_beq_eq_true hb) h
      simp only [blockS, this, cond_false] at q
      exact ⟨f, L, s, t, q⟩
  | _ => exact ⟨f, L, s, t, q⟩
theorem swp_cond_true {c : Operand} {x y : Code} (hc : ev f c = some (.bool true)) (h : swp P n x Q f L) : swp P n (.cond c x y) Q f L := by
  intro ok F a w s t
  simp only [okCode, Bool.and_eq_true] at ok
  exact wp_cond_true (s.eval hc) (h ok.1 F a w s t)
theorem swp_cond_false {c : Operand} {x y : Code} (hc : ev f c = some (.bool false)) (h : swp P n y Q f L) : swp P n (.cond c x y) Q f L := by
  intro ok F a w s t
  simp only [okCode, Bool.and_eq_true] at ok
  exact wp_cond_false (s.eval hc) (h ok.2 F a w s t)
theorem swp_cond {c : Operand} {x y : Code} {b : Bool} (hc : ev f c = some (.bool b)) (ht : b = true → swp P n x Q f L) (hf : b = false → swp P n y Q f L) :
    swp P n (.cond c x y) Q f L := by
  cases b
  · exact swp_cond_false hc (hf rfl)
  · exact swp_cond_true hc (ht rfl)
theorem swp_cond_t {c : Operand} {x y : Code} {b : Bool} (hc : ev f c = some (.bool b)) (hb : b = true) (h : swp P n x Q f L) : swp P n (.cond c x y) Q f L :=
  swp_cond_true (hc.trans (by rw [hb])) h
theorem swp_cond_f {c : Operand} {x y : Code} {b : Bool} (hc : ev f c = some (.bool b)) (hb : b = false) (h : swp P n y Q f L) : swp P n (.cond c x y) Q f L :=
  swp_cond_false (hc.trans (by rw [hb])) h
theorem swp_scope {c : Code} (h : swp P n c (fun e f L => match e with | .goto _ => False | e => Q e f L) f L) : swp P n (.scope c) Q f L := by
  intro ok F a w s t
  refine wp_scope_straight (wp_mono (h ok F a w s t) ?_)
  rintro e a w ⟨f, L, s, t, q⟩
  cases e <;> first | exact ⟨f, L, s, t, q⟩ | exact q.elim
theorem swp_region {id : Nat} {l : List Oper} (h : opsS P n l l Q f L) : swp P n (.region id l.toArray false) Q f L :=
  fun ok F a w s t => wp_region_lit (h (by simpa [okCode] using ok) F a w s t)
theorem opsS_nil {ops : List Oper} (h : Q .normal f L) : opsS P n ops [] Q f L := fun _ _ _ _ s t => wpList_nil ⟨f, L, s, t, h⟩

/-- A loop: σ is what goes on from round to round. -/
theorem swp_loop {σ : Type} {c : Code} (sl : σ → List (Nat × Value)) (H : σ → List HP) (φ : σ → Prop) (μ : σ → Nat) (s0 : σ)
    (h0 : slots f (sl s0)) (hH : Ent L (H s0)) (hφ : φ s0)
    (round : ∀ s, φ s → swp P n c (thenS (fun f L => ∃ s', slots f (sl s') ∧ Ent L (H s') ∧ φ s' ∧ μ s' < μ s) Q) (updAll (sl s)) (H s)) :
    swp P n (.loop c) Q f L := by
  intro ok F a w s t b kk cs
  have key : ∀ k s a w, μ s = k → φ s → (∃ f, Sim n a f ∧ slots f (sl s)) → St w (H s ++ F) →
      ∃ e a' w', lift n F Q e a' w' ∧ Arrives P (lone (b.at a (.code c :: .inLoop c :: kk)) cs w) b kk cs e a' w' := by
    intro k
    induction k using Nat.strongRecOn with
    | _ k ih =>
      intro s a w hk hp ⟨f, hs, hsl⟩ ht
      have hr := round s hp ok F a w (hs.weaken (updAll_le hsl)) ht
      obtain ⟨e, a₁, w₁, ⟨f1, L1, s1, t1, q⟩, harr⟩ := hr b (.inLoop c :: kk) cs
      cases e with
      | normal =>
        obtain ⟨s', hsl', hent, hp', hlt⟩ := q
        obtain ⟨e₂, a₂, w₂, hq₂, harr₂⟩ := ih (μ s') (hk ▸ hlt) s' a₁ w₁ rfl hp' ⟨f1, s1, hsl'⟩ (hent _ _ t1)
        exact ⟨e₂, a₂, w₂, hq₂, .of_steps (Steps.trans harr (.one step_inLoop)) harr₂⟩
      | exit id => exact ⟨_, a₁, w₁, ⟨f1, L1, s1, t1, q⟩, .pass (x := .inLoop c) rfl (fun _ _ => .inl (by simp)) harr⟩
      | goto l => exact ⟨_, a₁, w₁, ⟨f1, L1, s1, t1, q⟩, .pass (x := .inLoop c) rfl (fun _ _ => .inl (by simp)) harr⟩
      | ret => exact ⟨_, a₁, w₁, ⟨f1, L1, s1, t1, q⟩, .pass (x := .inLoop c) rfl (fun _ _ => .inl (by simp)) harr⟩
      | panic ch => exact ⟨_, a₁, w₁, ⟨f1, L1, s1, t1, q⟩, .pass (x := .inLoop c) rfl (fun _ _ => .inl (by simp)) harr⟩
      | outgrown => exact ⟨_, a₁, w₁, ⟨f1, L1, s1, t1, q⟩, .pass (x := .inLoop c) rfl (fun _ _ => .inl (by simp)) harr⟩
  obtain ⟨e, a', w', hq, harr⟩ := key _ s0 a w rfl hφ ⟨f, s, h0⟩ (hH _ _ t)
  exact ⟨e, a', w', hq, .of_steps (.one step_loop) harr⟩

/-- Only these slots matter from here on. -/
theorem swp_keep {c : Code} (l : List (Nat × Value)) (h : slots f l) (H : swp P n c Q (updAll l) L) : swp P n c Q f L :=
  fun ok F a w s t => H ok F a w (s.weaken (updAll_le h)) t
theorem opsS_keep {ops rest : List Oper} (l : List (Nat × Value)) (h : slots f l) (H : opsS P n ops rest Q (updAll l) L) : opsS P n ops rest Q f L :=
  fun ok F a w s t => H ok F a w (s.weaken (updAll_le h)) t
/-- A piece is walked up to a state that is told. -/
theorem swp_cut {x y : Code} {σ : Type} (sl : σ → List (Nat × Value)) (H : σ → List HP) (φ : σ → Prop)
    (h : swp P n x (thenS (fun f L => ∃ s, slots f (sl s) ∧ Ent L (H s) ∧ φ s) Q) f L)
    (hk : ∀ s, φ s → swp P n y Q (updAll (sl s)) (H s)) : swp P n (.seq x y) Q f L := by
  refine swp_seq (swp_mono h ?_)
  intro e f L q
  cases e <;> first | exact q | (obtain ⟨s, h1, h2, h3⟩ := q; exact swp_keep _ h1 (swp_ent h2 (hk s h3)))
end codes
end Go.SX
