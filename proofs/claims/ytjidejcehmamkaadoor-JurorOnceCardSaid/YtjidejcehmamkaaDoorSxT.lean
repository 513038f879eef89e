/- Slices cut in front; roM's of several functions. No condition. -/
import Derived.Test.YtjidejcehmamkaaDoorSxS
set_option linter.unusedVariables false
set_option linter.unusedSimpArgs false
namespace Go.SX
open Go
theorem mem_get {α : Type} {l : List α} {k : Nat} (h : k < l.length) : ∃ x, l[k]? = some x := ⟨l[k], List.getElem?_eq_getElem h⟩
theorem take_snoc {α : Type} {l : List α} {k : Nat} {x : α} (h : l[k]? = some x) : l.take (k + 1) = l.take k ++ [x] := by
  rw [List.take_add_one, h]; rfl
theorem len_snoc {α : Type} (l : List α) (x : α) : (l ++ [x]).length = l.length + 1 := by simp
theorem flat_snoc {α β : Type} (l : List α) (x : α) (g : α → List β) : (l ++ [x]).flatMap g = l.flatMap g ++ g x := by simp
theorem RdC.take {L : List HP} {b o k : Nat} {cs : List Value} (h : RdC L b o cs) : RdC L b o (cs.take k) := h.part (k := 0) fun j v e => by
  rw [Nat.zero_add]
  by_cases hj : j < k
  · rwa [List.getElem?_take_of_lt hj] at e
  · rw [List.getElem?_take_eq_none (by omega)] at e; cases e
theorem RdS.take {L : List HP} {a : Option Addr} {m sz k : Nat} {cs : List Value} (h : RdS L a m sz cs) (hk : k ≤ m) : RdS L a k sz (cs.take (k * sz)) := by
  refine ⟨by rw [List.length_take, h.1]; exact Nat.min_eq_left (Nat.mul_le_mul_right _ hk), ?_⟩
  rcases h.2 with h0 | ⟨b, o, e, r⟩
  · exact .inl (by omega)
  · exact .inr ⟨b, o, e, r.take⟩
theorem SlM.elem {α : Type} {g : α → List Value} {sz : Nat} (hg : ∀ x, (g x).length = sz) {M : Nat → Option Obj} {a : Option Addr} {m : Nat} {l : List α} {k : Nat} {x : α} (h : SlM M a m sz (l.flatMap g)) (hk : l[k]? = some x) (hm : m = l.length) : ∃ b o, a = some ⟨b, o, none⟩ ∧ ∀ L [HasM M L], RdC L b (o + k * sz) (g x) := by
  have hlt : k < l.length := (List.getElem?_eq_some_iff.1 hk).1
  rcases h.2 with h0 | ⟨b, o, l', t, fz, e, e1, e2⟩
  · omega
  · refine ⟨b, o, e, fun L hM => ?_⟩
    refine RdC.elem (o := o) (l := l) hg (fun w F H j v hv => ?_) hk
    have := hM.at_ w F H b _ e1
    simp [World.cell?, this, e2 j v hv]
def CM (M : Nat → Option Obj) (b o : Nat) (cs : List Value) : Prop := ∀ j v, cs[j]? = some v → ∃ l t fz, M b = some (.cells l t fz) ∧ l[o + j]? = some v
theorem CM.mono {M M' : Nat → Option Obj} {b o : Nat} {cs : List Value} (h : CM M b o cs) (hl : leM M M') : CM M' b o cs := fun j v e => let ⟨l, t, fz, h1, h2⟩ := h j v e; ⟨l, t, fz, hl _ _ h1, h2⟩
theorem CM.rd {M : Nat → Option Obj} {b o : Nat} {cs : List Value} (h : CM M b o cs) {L : List HP} [hM : HasM M L] : RdC L b o cs := fun w F H j v e => by
  obtain ⟨l, t, fz, h1, h2⟩ := h j v e
  have := hM.at_ w F H b _ h1
  simp [World.cell?, this, h2]
theorem CM.at {M : Nat → Option Obj} {b o j : Nat} {v : Value} {cs : List Value} (h : CM M b o cs) (hj : cs[j]? = some v) : CM M b (o + j) [v] := fun i u e => by
  cases i with
  | zero => simp at e; subst e; simpa using h j v hj
  | succ i => simp at e
theorem SlM.cm {α : Type} {g : α → List Value} {sz : Nat} (hg : ∀ x, (g x).length = sz) {M : Nat → Option Obj} {a : Option Addr} {m : Nat} {l : List α} {k : Nat} {x : α} (h : SlM M a m sz (l.flatMap g)) (hk : l[k]? = some x) (hm : m = l.length) : ∃ b o, a = some ⟨b, o, none⟩ ∧ CM M b (o + k * sz) (g x) := by
  have hlt : k < l.length := (List.getElem?_eq_some_iff.1 hk).1
  rcases h.2 with h0 | ⟨b, o, l', t, fz, e, e1, e2⟩
  · omega
  · refine ⟨b, o, e, fun j v hv => ⟨l', t, fz, e1, ?_⟩⟩
    rw [Nat.add_assoc]
    exact e2 _ _ (flat_get hg l k j x v hk hv)
theorem SlM.cm1 {α : Type} {g : α → Value} {M : Nat → Option Obj} {a : Option Addr} {m : Nat} {l : List α} {k : Nat} {x : α} (h : SlM M a m 1 (l.map g)) (hk : l[k]? = some x) (hm : m = l.length) : ∃ b o, a = some ⟨b, o, none⟩ ∧ CM M b (o + k * 1) [g x] := by
  have e : l.map g = l.flatMap fun x => [g x] := by
    clear h hk hm
    induction l with
    | nil => rfl
    | cons y l ih => rw [List.map_cons, ih]; rfl
  rw [e] at h
  exact SlM.cm (g := fun x => [g x]) (sz := 1) (fun _ => rfl) h hk hm
section
variable {P : Program} {n : Nat} {ops : List Oper} {f : Env} {A : List HP} {d : Tmp} {ty : TypeId} {pos : String} {af : Array Edge}
theorem Y.ldM {x : Operand} {t : TypeId} {sz bts : Nat} {zs : List Value} {b o j : Nat} {v : Value} {M : Nat → Option Obj} {cs : List Value} [h : Ty P t false sz zs bts] [hM : HasM M A] (hx : ev f x = some (.pointer (some ⟨b, o + j, none⟩))) (hr : CM M b o cs) (hj : cs[j]? = some v) : YieldS P n ops ⟨some d, .load t x, ty, pos, af, none⟩ f A v :=
  Y.ldR hx (hr.at hj).rd
theorem Y.ldM0 {x : Operand} {t : TypeId} {sz bts : Nat} {zs : List Value} {b o : Nat} {v : Value} {M : Nat → Option Obj} [h : Ty P t false sz zs bts] [hM : HasM M A] (hx : ev f x = some (.pointer (some ⟨b, o, none⟩))) (hr : CM M b o [v]) : YieldS P n ops ⟨some d, .load t x, ty, pos, af, none⟩ f A v :=
  Y.ldR hx hr.rd
theorem Y.ldMN {x : Operand} {t : TypeId} {sz bts : Nat} {zs : List Value} {b o : Nat} {cs : List Value} {M : Nat → Option Obj} [h : Ty P t true sz zs bts] [hM : HasM M A] (hx : ev f x = some (.pointer (some ⟨b, o, none⟩))) (hr : CM M b o cs) (hn : cs.length = sz) : YieldS P n ops ⟨some d, .load t x, ty, pos, af, none⟩ f A (.agg cs.toArray) :=
  Y.ldRN hx hr.rd hn
end
theorem SlM.take {M : Nat → Option Obj} {a : Option Addr} {m sz k : Nat} {cs : List Value} (h : SlM M a m sz cs) (hk : k ≤ m) : SlM M a k sz (cs.take (k * sz)) := by
  refine ⟨by rw [List.length_take, h.1]; exact Nat.min_eq_left (Nat.mul_le_mul_right _ hk), ?_⟩
  rcases h.2 with h0 | ⟨b, o, l, t, fz, e, e1, e2⟩
  · exact .inl (by omega)
  · refine .inr ⟨b, o, l, t, fz, e, e1, fun j v hv => e2 j v ?_⟩
    rw [List.getElem?_take] at hv; split at hv
    · exact hv
    · cases hv
theorem opsS_join {P : Program} {n : Nat} {ops rest : List Oper} {Q : Post} {f : Env} {L L0 : List HP} {M M1 : Nat → Option Obj} [h : PickM L M L0]
    (hk : ∀ M', leM M M' → leM M1 M' → opsS P n ops rest Q f (roM M' :: L0)) : opsS P n ops rest Q f (roM M1 :: L) := by
  refine opsS_ent ((h.ent.cons).trans Ent.roM_join) (opsS_ex fun M' => opsS_all (opsS_pure fun hh => hk M' hh.2 hh.1))
theorem opsS_dup {P : Program} {n : Nat} {ops rest : List Oper} {Q : Post} {f : Env} {L L0 : List HP} {M : Nat → Option Obj} [h : PickM L M L0]
    (hk : opsS P n ops rest Q f (roM M :: roM M :: L0)) : opsS P n ops rest Q f L := opsS_ent (h.ent.trans Ent.roM_dup) hk
theorem swp_dup {P : Program} {n : Nat} {c : Code} {Q : Post} {f : Env} {L L0 : List HP} {M : Nat → Option Obj} [h : PickM L M L0]
    (hk : swp P n c Q f (roM M :: roM M :: L0)) : swp P n c Q f L := swp_ent (h.ent.trans Ent.roM_dup) hk
theorem swp_absorb {P : Program} {n : Nat} {cd : Code} {Q : Post} {f : Env} {t sz m c : Nat} {a : Option Addr} {cs : List Value} {L L0 : List HP} {M : Nat → Option Obj} [h : PickM L M L0]
    (hk : ∀ M', leM M M' → SlM M' a m sz cs → swp P n cd Q f (roM M' :: L0)) : swp P n cd Q f (SX.slO t sz a m c cs :: L) := by
  refine swp_ent Ent.absorb (swp_ex fun M' => swp_all (swp_pure fun h => hk M' h.1 h.2))
theorem swp_join {P : Program} {n : Nat} {cd : Code} {Q : Post} {f : Env} {L L0 : List HP} {M M1 : Nat → Option Obj} [h : PickM L M L0]
    (hk : ∀ M', leM M M' → leM M1 M' → swp P n cd Q f (roM M' :: L0)) : swp P n cd Q f (roM M1 :: L) := by
  refine swp_ent ((h.ent.cons).trans Ent.roM_join) (swp_ex fun M' => swp_all (swp_pure fun hh => hk M' hh.2 hh.1))
theorem swp_slM {P : Program} {n : Nat} {cd : Code} {Q : Post} {f : Env} {t sz m c : Nat} {a : Option Addr} {cs : List Value} {L : List HP}
    (hk : ∀ M, SlM M a m sz cs → swp P n cd Q f (roM M :: L)) : swp P n cd Q f (SX.slO t sz a m c cs :: L) := by
  refine swp_ent Ent.slM (swp_ex fun M' => swp_all (swp_pure fun h => hk M' h))
theorem opsS_slM {P : Program} {n : Nat} {ops rest : List Oper} {Q : Post} {f : Env} {t sz m c : Nat} {a : Option Addr} {cs : List Value} {L : List HP}
    (hk : ∀ M, SlM M a m sz cs → opsS P n ops rest Q f (roM M :: L)) : opsS P n ops rest Q f (SX.slO t sz a m c cs :: L) := by
  refine opsS_ent Ent.slM (opsS_ex fun M' => opsS_all (opsS_pure fun h => hk M' h))
theorem swp_cutT {P : Program} {n : Nat} {x y : Code} {Q : Post} {f : Env} {L : List HP} {σ : Type} (sl : σ → List (Nat × Value)) (H : σ → List HP) (φ : σ → Prop)
    (h : swp P n x (thenS (fun f L => ∃ s, slots f (sl s) ∧ Ent L (H s) ∧ φ s) Q) f L)
    (hk : ∀ s, φ s → swp P n y Q (updAll (sl s)) (H s)) : swp P n x (thenS (fun f L => swp P n y Q f L) Q) f L := by
  refine swp_mono h ?_
  intro e f L q
  cases e <;> first | exact q | (obtain ⟨s, h1, h2, h3⟩ := q; exact swp_keep _ h1 (swp_ent h2 (hk s h3)))
/-! In a region whose order is open: an operation that uses what is held, and gives it back. -/
section
variable {P : Program} {n : Nat} {ops : List Oper} {Q : Post} {f : Env} {A L : List HP} {E cs σ : List Nat} {listed : Array Bool}
theorem A.oneK (i : Nat) {k : Nat} {o : Oper} (hr : Region.ready .any ops.toArray listed = [i]) (hi : ops[i]? = some o)
    (h : oneS P n ops o (fun f L2 => ∃ L', Ent L2 (L' ++ A) ∧ anyS P n ops Q cs A k (listed.setIfInBounds i true) true f L') f (L ++ A)) : anyS P n ops Q cs A (k + 1) listed true f L := by
  intro ok F a w s hsh t hh
  refine ⟨fun h0 => (by rw [h0] at hr; cases hr), fun j hj => ?_⟩
  have hri : i ∈ Region.ready .any ops.toArray listed := by rw [hr]; simp
  rw [hr] at hj
  obtain rfl : j = i := by simpa using hj
  have hsh := hsh.set hri
  have t' : St w ((L ++ A) ++ F) := by simpa using t
  have h2 := h (by simpa [okOps] using okOps_at ok hi) F a w s t'
  simp only [wpList] at h2
  unfold wpOp
  have hi' : ops.toArray[j]? = some o := by simpa using hi
  simp only [hi']
  have key : ∀ a w, lift n F (fun e f L => match e with | .normal => (∃ L', Ent L (L' ++ A) ∧ anyS P n ops Q cs A k (listed.setIfInBounds j true) true f L') | _ => False) .normal a w →
      until_ cs (fun w => ∃ L, St w (L ++ (A ++ F))) (listed.setIfInBounds j true) w ∧ anyI P ops.toArray (lift n F Q) (until_ cs fun w => ∃ L, St w (L ++ (A ++ F))) k (listed.setIfInBounds j true) a w := by
    rintro a w ⟨f, L, s, t, L', e, q⟩
    have t := e w F t
    exact ⟨.inr ⟨L', by simpa using t⟩, q ok F a w s hsh (by simpa using t) (fun h => by cases h)⟩
  by_cases hw : Region.wanted o (yielded ops.toArray a.tmps) = true
  · rw [if_pos hw] at h2 ⊢
    refine .inl ?_
    rcases h2 with h2 | ⟨_, a', w', f, L, _, _, q⟩
    · unfold Oper.wp at h2 ⊢
      generalize (execOp a.eval o).run P w = r at *
      cases r with
      | ok m w' =>
        cases m <;> simp only [Oper.upon] at h2 ⊢ <;> first
          | exact key _ _ h2
          | exact h2
          | (refine Calls.mono h2 fun e w'' he => ?_
             cases e with
             | returned u => exact key _ _ he
             | panicked c => obtain ⟨_, _, _, _, q⟩ := he; exact q.elim
             | outgrown => obtain ⟨_, _, _, _, _, _, q⟩ := he; exact q.elim)
          | exact Rows.mono h2 fun _ _ he => key _ _ he
      | halt x w' => cases x <;> simp only [Oper.upon] at h2 ⊢ <;> first | exact h2 | (obtain ⟨_, _, _, _, q⟩ := h2; exact q.elim)
    · exact q.elim
  · rw [if_neg hw] at h2 ⊢
    exact key _ _ h2
theorem D.k {i : Nat} {o : Oper} {L2 : List HP} (hi : ops[i]? = some o) (h9 : Nat.beq i 99999 = false) (hE : E.contains i = true) (hL : L ++ A = L2)
    (h : opsS P n ops [o] (thenS (fun f L2 => ∃ L', Ent L2 (L' ++ A) ∧ drawS P n ops E cs A σ Q (listed.setIfInBounds i true) true f L') (fun _ _ _ => False)) f L2) : drawS P n ops E cs A (i :: σ) Q listed true f L := by
  intro ho hs hQ
  simp only [ordOK, h9, hE, cond_true, cond_false, Bool.and_eq_true, beq_iff_eq] at ho
  refine _root_.Go.SX.A.oneK i ho.1 hi (hL ▸ fun ok F a w s t => wpList_mono (h ok F a w s t) ?_)
  rintro e a w ⟨f, L, s, t, q⟩
  cases e <;> first | exact ⟨f, L, s, t, q.imp fun L' q => ⟨q.1, q.2 ho.2 hs hQ⟩⟩ | exact q.elim
theorem D.endA (h : Q .normal f A) : drawS P n ops E cs A [] Q listed true f [] := D.endH (List.append_nil A) h
end
theorem Ent.slM1 {t sz m c : Nat} {a : Option Addr} {cs : List Value} {L : List HP} {R : (Nat → Option Obj) → Prop} {L' : List HP} (h : ∀ M, SlM M a m sz cs → Ent (roM M :: L) L') : Ent (slO t sz a m c cs :: L) L' :=
  Ent.slM.trans (Ent.ex fun M => Ent.open_all.trans (Ent.pure fun hs => h M hs))
end Go.SX
