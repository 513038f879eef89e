/- A region whose order is open: what only reads is taken first; the rest in each order that its edges allow. No condition. -/
import Derived.Test.YtjidejcehmamkaaDoorSxG
import Derived.Orders
import Derived.KernelRfl
set_option linter.unusedVariables false
set_option linter.unusedSimpArgs false
namespace Go.SX
open Go
section
variable {P : Program} {ops : Array Oper} {Q : Exit → Act → World → Prop} {J : Array Bool → World → Prop}

def reach (ops : Array Oper) : Nat → Nat → Nat → Bool
  | 0, _, _ => false
  | k + 1, i, j => match ops[j]? with
    | some o => o.after.any fun e => Region.binds .any e && (e.on == i || reach ops k i e.on)
    | none => false
def shut (ops : Array Oper) (listed : Array Bool) : Prop := ∀ j o, ops[j]? = some o → listed.getD j false = true → ∀ e ∈ o.after, Region.binds .any e = true → listed.getD e.on false = true
theorem shut.reach {listed : Array Bool} (hs : shut ops listed) : ∀ (k i j : Nat) (o : Oper), ops[j]? = some o → (∀ e ∈ o.after, Region.binds .any e = true → listed.getD e.on false = true) → reach ops k i j = true → listed.getD i false = true
  | 0, _, _, _, _, _, h => by simp [SX.reach] at h
  | k + 1, i, j, o, ho, hall, h => by
    simp only [SX.reach, ho] at h
    obtain ⟨e, he, hb⟩ := Array.any_eq_true'.1 h
    simp only [Bool.and_eq_true, Bool.or_eq_true, beq_iff_eq] at hb
    have hl := hall e he hb.1
    rcases hb.2 with h1 | h1
    · rw [← h1]; exact hl
    · cases ho2 : ops[e.on]? with
      | none => cases k <;> simp [SX.reach, ho2] at h1
      | some o2 => exact hs.reach k i e.on o2 ho2 (fun e2 h2 b2 => hs e.on o2 ho2 hl e2 h2 b2) h1
theorem shut.set {listed : Array Bool} {i : Nat} (hs : shut ops listed) (hr : i ∈ Region.ready .any ops listed) : shut ops (listed.setIfInBounds i true) := by
  intro j o ho hj e he hb
  by_cases hij : i = j
  · subst hij
    obtain ⟨_, o', ho', hall⟩ := mem_ready.1 hr
    rw [ho] at ho'; cases ho'
    exact getD_set_true (hall e he hb)
  · rw [getD_set_ne false hij] at hj
    exact getD_set_true (hs j o ho hj e he hb)

def anyI (P : Program) (ops : Array Oper) (Q : Exit → Act → World → Prop) (J : Array Bool → World → Prop) : Nat → Array Bool → Act → World → Prop
  | 0, listed, a, w => Region.ready .any ops listed = [] ∧ Q .normal a w
  | k + 1, listed, a, w => (Region.ready .any ops listed = [] → Q .normal a w) ∧
      ∀ i ∈ Region.ready .any ops listed, wpOp P ops Q i (fun a w => J (listed.setIfInBounds i true) w ∧ anyI P ops Q J k (listed.setIfInBounds i true) a w) a w
theorem anyI_any : ∀ (k : Nat) (listed : Array Bool) (a : Act) (w : World), anyI P ops Q J k listed a w → wpAny P .any ops Q k listed a w
  | 0, _, _, _, h => h
  | k + 1, _, _, _, h => ⟨h.1, fun i hi => wpOp_mono (fun a w hh => anyI_any k _ a w hh.2) (h.2 i hi)⟩
def YI (P : Program) (ops : Array Oper) (I : World → Prop) (o : Oper) (v : Value) (a : Act) : Prop :=
  (Region.wanted o (yielded ops a.tmps) = true ∧ ∀ w, I w → (execOp a.eval o).run P w = .ok (.value v) w) ∨ (Region.wanted o (yielded ops a.tmps) = false ∧ v = undef)
theorem YI.wpOp {I : World → Prop} {i : Nat} {o : Oper} {v : Value} {a : Act} {w : World} (hi : ops[i]? = some o) (hw : I w) (hy : YI P ops I o v a) {K : Act → World → Prop} (h : K (a.put o.dst v) w) : wpOp P ops Q i K a w := by
  unfold Go.wpOp
  simp only [hi]
  rcases hy with ⟨h1, h2⟩ | ⟨h1, rfl⟩
  · simp only [h1, if_true, Oper.wp, h2 w hw, Oper.upon]; exact .inl h
  · simp only [h1, Bool.false_eq_true, if_false]; exact h
theorem YI.put {I : World → Prop} {oi oj : Oper} {v : Value} {a : Act} (hsi : ∀ cs b, oi.op ≠ .select cs b) (h3 : ∀ d, oj.dst = some d → d ∉ oi.looksAt ops) (hy : YI P ops I oi v a) (u : Value) : YI P ops I oi v (a.put oj.dst u) := by
  unfold YI at *
  rw [execOp_put oi hsi a oj.dst u h3, wanted_put oi a oj.dst u h3]
  exact hy
theorem wpOp_behind {I : World → Prop} {j : Nat} {oi oj : Oper} {v : Value} (hj : ops[j]? = some oj) (hap : oi.apart ops oj = true) (hsi : ∀ cs b, oi.op ≠ .select cs b) (hsj : ∀ cs b, oj.op ≠ .select cs b)
    (hQ : ∀ c a w, Q (.panic c) (a.put oi.dst v) w → Q (.panic c) a w) {K : Act → World → Prop} {a : Act} {w : World} (hy : YI P ops I oi v a) (h : wpOp P ops Q j K (a.put oi.dst v) w) :
    wpOp P ops Q j (fun a' w' => YI P ops I oi v a' ∧ K (a'.put oi.dst v) w') a w := by
  obtain ⟨h1, h2, h3⟩ := Oper.apart_spec hap
  unfold wpOp at *
  simp only [hj] at *
  rw [wanted_put oj a oi.dst v h1] at h
  by_cases hw : Region.wanted oj (yielded ops a.tmps) = true
  · rw [if_pos hw] at h ⊢
    unfold Oper.wp Oper.asks at *
    rw [execOp_put oj hsj a oi.dst v h1] at h
    rcases h with h | h
    case inr => exact .inr h
    refine .inl ?_
    generalize (execOp a.eval oj).run P w = r at *
    cases r with
    | ok m w' =>
      cases m <;> simp only [Oper.upon] at h ⊢
      case value u => exact ⟨hy.put hsi h3 u, by rw [← Act.put_comm a v u h2]; exact h⟩
      case skip => exact ⟨hy.put hsi h3 _, by rw [← Act.put_comm a v undef h2]; exact h⟩
      case defer d =>
        refine ⟨YI.put hsi h3 (show YI P ops I oi v { a with defers := d :: a.defers } from hy) _, ?_⟩
        rw [← Act.put_comm _ v undef h2, ← Act.put_defers]; exact h
      case enter f args =>
        refine Calls.mono h fun e w'' he => ?_
        cases e with
        | returned u => exact ⟨hy.put hsi h3 u, by rw [← Act.put_comm a v u h2]; exact he⟩
        | panicked c => exact hQ _ _ _ he
        | outgrown => exact he
      case row row args => exact Rows.mono h fun u w'' he => ⟨hy.put hsi h3 u, by rw [← Act.put_comm a v u h2]; exact he⟩
    | halt x w' =>
      cases x <;> simp only [Oper.upon] at h ⊢
      case panic u => exact hQ _ _ _ h
  · rw [if_neg hw] at h ⊢
    exact ⟨hy.put hsi h3 _, by rw [← Act.put_comm a v undef h2]; exact h⟩
theorem anyI_first {I : World → Prop} {i : Nat} {oi : Oper} {v : Value} (hi : ops[i]? = some oi) (hsel : Region.noSelect ops = true) (hQ : ∀ c a w, Q (.panic c) (a.put oi.dst v) w → Q (.panic c) a w)
    (hJ : ∀ listed w, shut ops listed → listed.getD i false = false → J (listed.setIfInBounds i true) w → J listed w ∧ I w) :
    ∀ (k : Nat) (listed : Array Bool) (a : Act) (w : World), shut ops listed →
      (∀ j oj, ops[j]? = some oj → j ≠ i → listed.getD j true = false → (∀ e ∈ oj.after, Region.binds .any e = true → e.on ≠ i) → oi.apart ops oj = true) →
      i ∈ Region.ready .any ops listed → YI P ops I oi v a → I w → J (listed.setIfInBounds i true) w →
      anyI P ops Q J k (listed.setIfInBounds i true) (a.put oi.dst v) w → anyI P ops Q J (k + 1) listed a w := by
  intro k
  induction k with
  | zero =>
    intro listed a w _ _ hr hy hw hjw H
    refine ⟨fun h => (by rw [h] at hr; cases hr), fun j hj => ?_⟩
    by_cases hji : j = i
    · subst hji; exact hy.wpOp hi hw ⟨hjw, H⟩
    · have := ready_mono hj hji
      rw [H.1] at this; cases this
  | succ k ih =>
    intro listed a w hsh hfree hr hy hw hjw H
    refine ⟨fun h => (by rw [h] at hr; cases hr), fun j hj => ?_⟩
    by_cases hji : j = i
    · subst hji; exact hy.wpOp hi hw ⟨hjw, H⟩
    · have h1 := H.2 j (ready_mono hj hji)
      obtain ⟨hjun, oj, hoj, hall⟩ := mem_ready.1 hj
      have hiun : listed.getD i false = false := by
        have h0 := (mem_ready.1 hr).1
        rcases Nat.lt_or_ge i listed.size with h' | h'
        · simp [h'] at h0 ⊢; exact h0
        · simp [Array.getElem?_eq_none h']
      have hnot : ∀ e ∈ oj.after, Region.binds .any e = true → e.on ≠ i := fun e he hb heq => by
        have h1 := hall e he hb
        rw [heq, hiun] at h1; cases h1
      have h2 := wpOp_behind hoj (hfree j oj hoj hji hjun hnot) (Region.noSelect_spec hsel i oi · · hi) (Region.noSelect_spec hsel j oj · · hoj) hQ hy h1
      have hfree' : ∀ m om, ops[m]? = some om → m ≠ i → (listed.setIfInBounds j true).getD m true = false → (∀ e ∈ om.after, Region.binds .any e = true → e.on ≠ i) → oi.apart ops om = true := fun m om hm hmi hun hno => by
        refine hfree m om hm hmi ?_ hno
        by_cases hjm : j = m
        · subst hjm; exact hjun
        · rw [getD_set_ne true hjm] at hun; exact hun
      have hsh' := hsh.set hj
      have hr' := ready_mono hr (Ne.symm hji)
      have hiun' : (listed.setIfInBounds j true).getD i false = false := by rw [getD_set_ne false hji]; exact hiun
      refine wpOp_mono (fun a' w' h3 => ?_) h2
      obtain ⟨hy', hj', h3⟩ := h3
      rw [Array.setIfInBounds_comm _ _ (Ne.symm hji)] at hj' h3
      obtain ⟨hJ1, hI1⟩ := hJ _ _ hsh' hiun' hj'
      exact ⟨hJ1, ih _ a' w' hsh' hfree' hr' hy' hI1 hj' h3⟩
def until_ (cs : List Nat) (I : World → Prop) (listed : Array Bool) (w : World) : Prop := (∃ m ∈ cs, listed.getD m false = true) ∨ I w
theorem until_back {cs : List Nat} {I I0 : World → Prop} {i : Nat} {listed : Array Bool} {w : World} (h0 : ∀ w, I0 w → I w) (hc : (cs.all fun m => m != i && (ops[m]?).isSome && reach ops 4 i m) = true) (hsh : shut ops listed) (hi : listed.getD i false = false)
    (h : until_ cs I0 (listed.setIfInBounds i true) w) : until_ cs I0 listed w ∧ I w := by
  rcases h with ⟨m, hm, hl⟩ | h
  · have := List.all_eq_true.1 hc m hm
    simp only [Bool.and_eq_true, bne_iff_ne] at this
    obtain ⟨⟨h1, h2⟩, h3⟩ := this
    rw [getD_set_ne false (Ne.symm h1)] at hl
    obtain ⟨o, ho⟩ := Option.isSome_iff_exists.1 h2
    have := hsh.reach 4 i m o ho (fun e he hb => hsh m o ho hl e he hb) h3
    rw [hi] at this; cases this
  · exact ⟨.inr h, h0 w h⟩
theorem until_back' {cs : List Nat} {I0 : World → Prop} {i : Nat} {listed : Array Bool} {w : World} (hc : cs.contains i = false)
    (h : until_ cs I0 (listed.setIfInBounds i true) w) : until_ cs I0 listed w := by
  rcases h with ⟨m, hm, hl⟩ | h
  · have : m ≠ i := fun e => by subst e; simp at hc; exact hc hm
    rw [getD_set_ne false (Ne.symm this)] at hl
    exact .inl ⟨m, hm, hl⟩
  · exact .inr h
theorem shut_none (m : Nat) : shut ops (Array.replicate m false) := by
  intro j o ho hj
  simp [Array.getD_eq_getD_getElem?, Array.getElem?_replicate] at hj
  split at hj <;> simp at hj
end

section
variable {P : Program} {n : Nat} {ops : List Oper} {Q : Post} {f : Env} {A L : List HP} {cs : List Nat}
def anyS (P : Program) (n : Nat) (ops : List Oper) (Q : Post) (cs : List Nat) (A : List HP) (k : Nat) (listed : Array Bool) (held : Bool) (f : Env) (L : List HP) : Prop :=
  okOps n ops = true → ∀ F a w, Sim n a f → shut ops.toArray listed → St w ((bif held then L ++ A else L) ++ F) → (held = false → ∃ m ∈ cs, listed.getD m false = true) →
    anyI P ops.toArray (lift n F Q) (until_ cs fun w => ∃ L, St w (L ++ (A ++ F))) k listed a w
theorem swp_draw {id : Nat} (cs : List Nat) (A L1 : List HP) (hm : P.follows .mixedOrders = true) (hL : Ent L (L1 ++ A)) (h : anyS P n ops Q cs A ops.length (Array.replicate ops.length false) true f L1) : swp P n (.region id ops.toArray true) Q f L := by
  intro ok F a w s t
  refine wp_region_any hm ?_
  have h0 := h (by simpa [okCode] using ok) F a { w with drawn := w.drawn + 1 } s (shut_none _) (St.heap (w := w) rfl (hL w F t)) (fun h => by cases h)
  have := anyI_any _ _ _ _ h0
  simpa using this
theorem okOps_at {i : Nat} {o : Oper} (ok : okOps n ops = true) (hi : ops[i]? = some o) : o.dst.all (fun d => decide (d < n)) = true :=
  List.all_eq_true.1 ok o (List.mem_of_getElem? hi)
def YieldS (P : Program) (n : Nat) (ops : List Oper) (o : Oper) (f : Env) (A : List HP) (v : Value) : Prop :=
  ∀ a, Sim n a f → (Region.wanted o (yielded ops.toArray a.tmps) = true ∧ ∀ w F, St w (A ++ F) → (execOp a.eval o).run P w = .ok (.value v) w) ∨ (Region.wanted o (yielded ops.toArray a.tmps) = false ∧ v = undef)
def oneS (P : Program) (n : Nat) (ops : List Oper) (o : Oper) (K : Env → List HP → Prop) (f : Env) (L : List HP) : Prop :=
  opsS P n ops [o] (fun e f L => match e with | .normal => K f L | _ => False) f L
theorem ready_unlisted {i : Nat} {listed : Array Bool} {ops : Array Oper} (hr : i ∈ Region.ready .any ops listed) : listed.getD i false = false := by
  have h0 := (mem_ready.1 hr).1
  rcases Nat.lt_or_ge i listed.size with h' | h'
  · simp [h'] at h0 ⊢; exact h0
  · simp [Array.getElem?_eq_none h']
theorem hit_set {i : Nat} {listed : Array Bool} (h : ∃ m ∈ cs, listed.getD m false = true) : ∃ m ∈ cs, (listed.setIfInBounds i true).getD m false = true := by
  obtain ⟨m, hm, hl⟩ := h; exact ⟨m, hm, getD_set_true hl⟩
theorem A.takeR (i : Nat) {k : Nat} {listed : Array Bool} {o : Oper} {v : Value} (hi : ops[i]? = some o) (hs : Region.noSelect ops.toArray = true) (hf : Region.free .any ops.toArray listed i = true) (hr : (Region.ready .any ops.toArray listed).contains i = true)
    (hc : (cs.all fun m => m != i && (ops.toArray[m]?).isSome && reach ops.toArray 4 i m) = true) (hy : YieldS P n ops o f A v) (hQ : ∀ c f L, ¬ Q (.panic c) f L) (h : anyS P n ops Q cs A k (listed.setIfInBounds i true) true (updo f o.dst v) L) : anyS P n ops Q cs A (k + 1) listed true f L := by
  intro ok F a w s hsh t hh
  have hi' : ops.toArray[i]? = some o := by simpa using hi
  have hr' : i ∈ Region.ready .any ops.toArray listed := by simpa using hr
  have t' : St w (L ++ (A ++ F)) := by simpa using t
  refine anyI_first (I := fun w => ∃ L, St w (L ++ (A ++ F))) (J := until_ cs fun w => ∃ L, St w (L ++ (A ++ F))) hi' hs (fun c a w ⟨_, _, _, _, q⟩ => absurd q (hQ _ _ _)) (fun listed w hsh hun hj => until_back (fun _ h => h) hc hsh hun hj) k listed a w hsh (Region.free_spec hi' hf) hr' ?_ ⟨L, t'⟩ (.inr ⟨L, t'⟩)
    (h ok F _ w (s.put (okOps_at ok hi) v) (hsh.set hr') t (fun h => by cases h))
  rcases hy a s with ⟨h1, h2⟩ | h1
  · exact .inl ⟨h1, fun w ⟨L, t⟩ => h2 w F (St.drop_left t)⟩
  · exact .inr h1
theorem A.take (i : Nat) {k : Nat} {listed : Array Bool} {held : Bool} {o : Oper} {v : Value} (hi : ops[i]? = some o) (hs : Region.noSelect ops.toArray = true) (hf : Region.free .any ops.toArray listed i = true) (hr : (Region.ready .any ops.toArray listed).contains i = true)
    (hc : cs.contains i = false) (hy : YieldS P n ops o f [] v) (hQ : ∀ c f L, ¬ Q (.panic c) f L) (h : anyS P n ops Q cs A k (listed.setIfInBounds i true) held (updo f o.dst v) L) : anyS P n ops Q cs A (k + 1) listed held f L := by
  intro ok F a w s hsh t hh
  have hi' : ops.toArray[i]? = some o := by simpa using hi
  have hr' : i ∈ Region.ready .any ops.toArray listed := by simpa using hr
  refine anyI_first (I := fun w => ∃ L, St w L) (J := until_ cs fun w => ∃ L, St w (L ++ (A ++ F))) hi' hs (fun c a w ⟨_, _, _, _, q⟩ => absurd q (hQ _ _ _)) (fun listed w hsh hun hj => ⟨until_back' hc hj, [], St.drop_all w⟩) k listed a w hsh (Region.free_spec hi' hf) hr' ?_ ⟨[], St.drop_all w⟩ ?_
    (h ok F _ w (s.put (okOps_at ok hi) v) (hsh.set hr') t (fun h => hit_set (hh h)))
  · rcases hy a s with ⟨h1, h2⟩ | h1
    · exact .inl ⟨h1, fun w ⟨L, t⟩ => h2 w L t⟩
    · exact .inr h1
  · cases held with
    | true => exact .inr ⟨L, by simpa using t⟩
    | false => exact .inl (hit_set (hh rfl))
theorem one_of {i : Nat} {o : Oper} {M M' : List HP} {F : List HP} {a : Act} {w : World} {k : Nat} {listed : Array Bool} {held : Bool} (hi : ops[i]? = some o) (ok : okOps n ops = true) (s : Sim n a f) (t : St w (M ++ (M' ++ F))) (hsh : shut ops.toArray (listed.setIfInBounds i true))
    (hcond : (held = true ∧ M' = A) ∨ (held = false ∧ M' = [] ∧ ∃ m ∈ cs, (listed.setIfInBounds i true).getD m false = true))
    (h : oneS P n ops o (fun f L => anyS P n ops Q cs A k (listed.setIfInBounds i true) held f L) f M) :
    wpOp P ops.toArray (lift n F Q) i (fun a w => until_ cs (fun w => ∃ L, St w (L ++ (A ++ F))) (listed.setIfInBounds i true) w ∧ anyI P ops.toArray (lift n F Q) (until_ cs fun w => ∃ L, St w (L ++ (A ++ F))) k (listed.setIfInBounds i true) a w) a w := by
  have h2 := h (by simpa [okOps] using okOps_at ok hi) (M' ++ F) a w s t
  simp only [wpList] at h2
  unfold wpOp
  have hi' : ops.toArray[i]? = some o := by simpa using hi
  simp only [hi']
  have key : ∀ a w, lift n (M' ++ F) (fun e f L => match e with | .normal => anyS P n ops Q cs A k (listed.setIfInBounds i true) held f L | _ => False) .normal a w →
      until_ cs (fun w => ∃ L, St w (L ++ (A ++ F))) (listed.setIfInBounds i true) w ∧ anyI P ops.toArray (lift n F Q) (until_ cs fun w => ∃ L, St w (L ++ (A ++ F))) k (listed.setIfInBounds i true) a w := by
    rintro a w ⟨f, L, s, t, q⟩
    rcases hcond with ⟨rfl, rfl⟩ | ⟨rfl, rfl, hm⟩
    · exact ⟨.inr ⟨L, t⟩, q ok F a w s hsh (by simpa using t) (fun h => by cases h)⟩
    · exact ⟨.inl hm, q ok F a w s hsh (by simpa using t) (fun _ => hm)⟩
  by_cases hw : Region.wanted o (yielded ops.toArray a.tmps) = true
  · rw [if_pos hw] at h2 ⊢
    refine .inl ?_
    rcases h2 with h2 | ⟨_, a', w', f, L, _, _, q⟩
    · unfold Oper.wp at h2 ⊢
      generalize (execOp a.eval o).run P w = r at *
      cases r with
      | ok m w' =>
        cases m <;> simp only [Oper.upon] at h2 ⊢ <;> first
          | exact key _ _ h2
          | exact h2
          | (refine Calls.mono h2 fun e w'' he => ?_
             cases e with
             | returned u => exact key _ _ he
             | panicked c => obtain ⟨_, _, _, _, q⟩ := he; exact q.elim
             | outgrown => obtain ⟨_, _, _, _, _, _, q⟩ := he; exact q.elim)
          | exact Rows.mono h2 fun _ _ he => key _ _ he
      | halt x w' => cases x <;> simp only [Oper.upon] at h2 ⊢ <;> first | exact h2 | (obtain ⟨_, _, _, _, q⟩ := h2; exact q.elim)
    · exact q.elim
  · rw [if_neg hw] at h2 ⊢
    exact key _ _ h2
theorem A.one (i : Nat) {k : Nat} {listed : Array Bool} {held : Bool} {o : Oper} (hr : Region.ready .any ops.toArray listed = [i]) (hi : ops[i]? = some o)
    (h : oneS P n ops o (fun f L => anyS P n ops Q cs A k (listed.setIfInBounds i true) held f L) f L) : anyS P n ops Q cs A (k + 1) listed held f L := by
  intro ok F a w s hsh t hh
  refine ⟨fun h0 => (by rw [h0] at hr; cases hr), fun j hj => ?_⟩
  have hri : i ∈ Region.ready .any ops.toArray listed := by rw [hr]; simp
  rw [hr] at hj
  obtain rfl : j = i := by simpa using hj
  cases held with
  | true => exact one_of (M' := A) hi ok s (by simpa using t) (hsh.set hri) (.inl ⟨rfl, rfl⟩) h
  | false => exact one_of (M' := []) hi ok s (by simpa using t) (hsh.set hri) (.inr ⟨rfl, rfl, hit_set (hh rfl)⟩) h
theorem A.oneC (i : Nat) {k : Nat} {listed : Array Bool} {o : Oper} (hr : Region.ready .any ops.toArray listed = [i]) (hi : ops[i]? = some o) (hc : cs.contains i = true)
    (h : oneS P n ops o (fun f L => anyS P n ops Q cs A k (listed.setIfInBounds i true) false f L) f (L ++ A)) : anyS P n ops Q cs A (k + 1) listed true f L := by
  intro ok F a w s hsh t hh
  refine ⟨fun h0 => (by rw [h0] at hr; cases hr), fun j hj => ?_⟩
  have hri : i ∈ Region.ready .any ops.toArray listed := by rw [hr]; simp
  rw [hr] at hj
  obtain rfl : j = i := by simpa using hj
  refine one_of (M' := []) hi ok s (by simpa using t) (hsh.set hri) (.inr ⟨rfl, rfl, j, by simpa using hc, ?_⟩) h
  have h0 := ready_unlisted hri
  have := mem_ready.1 hri
  have hlt : j < listed.size := by
    rcases Nat.lt_or_ge j listed.size with h' | h'
    · exact h'
    · have := this.1; simp [Array.getElem?_eq_none h'] at this
  simp [hlt]
theorem A.two (i j : Nat) {k : Nat} {listed : Array Bool} {held : Bool} {o o' : Oper} (hr : Region.ready .any ops.toArray listed = [i, j]) (hi : ops[i]? = some o) (hj : ops[j]? = some o')
    (h : oneS P n ops o (fun f L => anyS P n ops Q cs A k (listed.setIfInBounds i true) held f L) f L)
    (h' : oneS P n ops o' (fun f L => anyS P n ops Q cs A k (listed.setIfInBounds j true) held f L) f L) : anyS P n ops Q cs A (k + 1) listed held f L := by
  intro ok F a w s hsh t hh
  refine ⟨fun h0 => (by rw [h0] at hr; cases hr), fun m hm => ?_⟩
  have hri : i ∈ Region.ready .any ops.toArray listed := by rw [hr]; simp
  have hrj : j ∈ Region.ready .any ops.toArray listed := by rw [hr]; simp
  rw [hr] at hm
  rcases (by simpa using hm : m = i ∨ m = j) with rfl | rfl
  · cases held with
    | true => exact one_of (M' := A) hi ok s (by simpa using t) (hsh.set hri) (.inl ⟨rfl, rfl⟩) h
    | false => exact one_of (M' := []) hi ok s (by simpa using t) (hsh.set hri) (.inr ⟨rfl, rfl, hit_set (hh rfl)⟩) h
  · cases held with
    | true => exact one_of (M' := A) hj ok s (by simpa using t) (hsh.set hrj) (.inl ⟨rfl, rfl⟩) h'
    | false => exact one_of (M' := []) hj ok s (by simpa using t) (hsh.set hrj) (.inr ⟨rfl, rfl, hit_set (hh rfl)⟩) h'
theorem A.done {k : Nat} {listed : Array Bool} (hr : Region.ready .any ops.toArray listed = []) (h : Q .normal f L) : anyS P n ops Q cs A k listed false f L := by
  intro ok F a w s _ t _
  have hq : lift n F Q .normal a w := ⟨f, _, s, t, h⟩
  cases k with
  | zero => exact ⟨hr, hq⟩
  | succ k => exact ⟨fun _ => hq, by rw [hr]; simp⟩
theorem anyS_endP {k : Nat} {listed : Array Bool} {L2 : List HP} (hL : Ent (L ++ A) L2) (hr : Region.ready .any ops.toArray listed = []) (h : Q .normal f L2) : anyS P n ops Q cs A k listed true f L := by
  intro ok F a w s _ t _
  have hq : lift n F Q .normal a w := ⟨f, L2, s, hL w F t, h⟩
  cases k with
  | zero => exact ⟨hr, hq⟩
  | succ k => exact ⟨fun _ => hq, by rw [hr]; simp⟩
theorem anyS_ex {α : Sort _} {k : Nat} {listed : Array Bool} {X : α → HP} (H : ∀ x, anyS P n ops Q cs A k listed true f (X x :: L)) : anyS P n ops Q cs A k listed true f (exH X :: L) :=
  fun ok F a w s hsh t hh => let ⟨x, t⟩ := St.open_ex (M := (L ++ A) ++ F) t; H x ok F a w s hsh t hh
theorem anyS_ent {k : Nat} {listed : Array Bool} {held : Bool} {L' : List HP} (h : Ent L L') (H : anyS P n ops Q cs A k listed held f L') : anyS P n ops Q cs A k listed held f L :=
  fun ok F a w s hsh t hh => H ok F a w s hsh (by cases held with
    | true => exact h.app w F t
    | false => exact h w F t) hh
end
end Go.SX
