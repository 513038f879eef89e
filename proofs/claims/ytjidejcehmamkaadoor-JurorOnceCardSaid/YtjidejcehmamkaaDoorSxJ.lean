/- Slices that can be read; maps of immutable blocks; bytes. No condition. -/
import Derived.Test.YtjidejcehmamkaaDoorSxY
set_option linter.unusedVariables false
set_option linter.unusedSimpArgs false
namespace Go.SX
open Go

def RdS (L : List HP) (a : Option Addr) (m sz : Nat) (cs : List Value) : Prop := cs.length = m * sz ∧ (m = 0 ∨ ∃ b o, a = some ⟨b, o, none⟩ ∧ RdC L b o cs)
theorem RdS.sub {L0 L : List HP} {a : Option Addr} {m sz : Nat} {cs : List Value} (h : RdS L0 a m sz cs) [s : Sub L0 L] : RdS L a m sz cs :=
  ⟨h.1, h.2.imp id fun ⟨b, o, e, r⟩ => ⟨b, o, e, r.sub⟩⟩
theorem RdS.ent {L0 L : List HP} {a : Option Addr} {m sz : Nat} {cs : List Value} (h : RdS L0 a m sz cs) (s : Ent L L0) : RdS L a m sz cs :=
  ⟨h.1, h.2.imp id fun ⟨b, o, e, r⟩ => ⟨b, o, e, r.ent s⟩⟩
theorem SrcS.rd {P : Program} {L : List HP} {sz : Nat} {tx e' : TypeId} [h : SlTy P tx e'] {a : Option Addr} {m c : Nat} {cs : List Value} (hr : RdS L a m sz cs) (h1 : cs.all (·.oneCell') = true) : SrcS P L sz tx (.slice a m c) m cs := by
  obtain ⟨hl, hm⟩ := hr
  rcases hm with rfl | ⟨b, o, rfl, hc⟩
  · have : cs = [] := List.eq_nil_of_length_eq_zero (by simpa using hl)
    subst this
    cases a with
    | none => exact SrcS.nil
    | some ad => exact ⟨fun w F H => Src.ofSlice w h.raw ad 0 c [] (by simp) (fun j u e => by simp at e) (fun u hu => by cases hu)⟩
  · exact SrcS.sl hc hl h1
theorem RdS.slO {L L1 : List HP} {t sz m c : Nat} {a : Option Addr} {cs : List Value} (h : Ent L (slO t sz a m c cs :: L1)) (hl : cs.length = m * sz) (ha : m = 0 ∨ ∃ b, a = some ⟨b, 0, none⟩) : RdS L a m sz cs :=
  ⟨hl, ha.imp id fun ⟨b, e⟩ => ⟨b, 0, e, by subst e; exact RdC.slO ⟨L1, h⟩⟩⟩

theorem flat_len {α : Type} {g : α → List Value} {sz : Nat} (hg : ∀ x, (g x).length = sz) : ∀ l : List α, (l.flatMap g).length = l.length * sz
  | [] => by simp
  | x :: l => by simp [hg, flat_len hg l, Nat.succ_mul, Nat.add_comm]
theorem flat_get {α : Type} {g : α → List Value} {sz : Nat} (hg : ∀ x, (g x).length = sz) : ∀ (l : List α) (k j : Nat) (x : α) (v : Value), l[k]? = some x → (g x)[j]? = some v → (l.flatMap g)[k * sz + j]? = some v
  | [], k, j, x, v, h, _ => by simp at h
  | y :: l, 0, j, x, v, h, hv => by
    simp at h; subst h
    have : j < (g y).length := (List.getElem?_eq_some_iff.1 hv).1
    simp [List.getElem?_append_left this, hv]
  | y :: l, k + 1, j, x, v, h, hv => by
    have ih := flat_get hg l k j x v (by simpa using h) hv
    rw [List.flatMap_cons, List.getElem?_append_right (by rw [hg]; rw [Nat.succ_mul]; omega), hg]
    rw [show (k + 1) * sz + j - sz = k * sz + j from by rw [Nat.succ_mul]; omega]
    exact ih
theorem RdC.elem {α : Type} {g : α → List Value} {sz : Nat} (hg : ∀ x, (g x).length = sz) {L : List HP} {b o : Nat} {l : List α} {k : Nat} {x : α} (h : RdC L b o (l.flatMap g)) (hk : l[k]? = some x) : RdC L b (o + k * sz) (g x) :=
  h.part fun j v e => flat_get hg l k j x v hk e
theorem RdS.elem {α : Type} {g : α → List Value} {sz : Nat} (hg : ∀ x, (g x).length = sz) {L : List HP} {a : Option Addr} {m : Nat} {l : List α} {k : Nat} {x : α} (h : RdS L a m sz (l.flatMap g)) (hk : l[k]? = some x) (hm : m = l.length) : ∃ b o, a = some ⟨b, o, none⟩ ∧ RdC L b (o + k * sz) (g x) := by
  have hlt : k < l.length := (List.getElem?_eq_some_iff.1 hk).1
  rcases h.2 with h0 | ⟨b, o, e, r⟩
  · omega
  · exact ⟨b, o, e, r.elem hg hk⟩
theorem RdC.tail {L : List HP} {b o : Nat} {v : Value} {cs : List Value} (h : RdC L b o (v :: cs)) : RdC L b (o + 1) cs := h.part fun j u e => by rw [Nat.add_comm]; simpa using e
theorem RdC.head {L : List HP} {b o : Nat} {v : Value} {cs : List Value} (h : RdC L b o (v :: cs)) : RdC L b o [v] := h.part (k := 0) fun j u e => by
  cases j with
  | zero => simpa using e
  | succ j => simp at e
theorem RdC.at {L : List HP} {b o j : Nat} {v : Value} {cs : List Value} (h : RdC L b o cs) (hj : cs[j]? = some v) : RdC L b (o + j) [v] := h.part fun i u e => by
  cases i with
  | zero => simp at e; subst e; simpa using hj
  | succ i => simp at e
theorem RdC.ofS {L : List HP} {t sz m c b : Nat} {cs : List Value} {L' : HP → List HP} [h : UpdS (some ⟨b, 0, none⟩) L t sz m c cs L'] : RdC L b 0 cs := by
  obtain ⟨R, p, _⟩ := h.at_
  exact RdC.slO ⟨R, Ent.perm p⟩
theorem UpdS.addr {a : Option Addr} {L : List HP} {t sz m c : Nat} {cs : List Value} {L' : HP → List HP} (h : UpdS a L t sz m c cs L') {w : World} {F : List HP} (H : St w (L ++ F)) : (m = 0 ∨ ∃ b, a = some ⟨b, 0, none⟩) ∧ cs.length = m * sz := by
  obtain ⟨R, p, _⟩ := h.at_
  have := St.slO_open (L := R ++ F) (by simpa using St.perm (p.append_right F) H)
  refine ⟨?_, this.1⟩
  rcases this.2 with ⟨_, h, _⟩ | ⟨b, _, h, _⟩
  · exact .inl h
  · exact .inr ⟨b, h⟩
theorem RdS.ofS {a : Option Addr} {L : List HP} {t sz m c : Nat} {cs : List Value} {L' : HP → List HP} [h : UpdS a L t sz m c cs L'] (hl : cs.length = m * sz) (ha : m = 0 ∨ ∃ b, a = some ⟨b, 0, none⟩) : RdS L a m sz cs :=
  ⟨hl, ha.imp id fun ⟨b, e⟩ => ⟨b, 0, e, by subst e; exact RdC.ofS (h := h)⟩⟩
theorem swp_addr (a : Option Addr) {P : Program} {n : Nat} {cd : Code} {Q : Post} {f : Env} {L : List HP} {t sz m c : Nat} {cs : List Value} {L' : HP → List HP} [h : UpdS a L t sz m c cs L'] (H : m = 0 ∨ (∃ b, a = some ⟨b, 0, none⟩) → swp P n cd Q f L) : swp P n cd Q f L :=
  fun ok F ac w s t => H (h.addr t).1 ok F ac w s t
theorem opsS_addr (a : Option Addr) {P : Program} {n : Nat} {ops rest : List Oper} {Q : Post} {f : Env} {L : List HP} {t sz m c : Nat} {cs : List Value} {L' : HP → List HP} [h : UpdS a L t sz m c cs L'] (H : m = 0 ∨ (∃ b, a = some ⟨b, 0, none⟩) → opsS P n ops rest Q f L) : opsS P n ops rest Q f L :=
  fun ok F ac w s t => H (h.addr t).1 ok F ac w s t
theorem CallsS.addr (a : Option Addr) {P : Program} {g : FuncId} {args : List Value} {L : List HP} {R : Value → List HP → Prop} {t sz m c : Nat} {cs : List Value} {L' : HP → List HP} [h : UpdS a L t sz m c cs L'] (H : m = 0 ∨ (∃ b, a = some ⟨b, 0, none⟩) → CallsS P g args L R) : CallsS P g args L R :=
  fun F w t => H (h.addr t).1 F w t
def B (x : UInt8) : Value := .int .u8 x.toNat
theorem B_one (bs : List UInt8) : (bs.map B).all (·.oneCell') = true := by simp [B, Value.oneCell']

def roM (M : Nat → Option Obj) : HP := fun _ h => ∀ b o, M b = some o → h b = some (false, o)
def leM (M M' : Nat → Option Obj) : Prop := ∀ b o, M b = some o → M' b = some o
theorem leM.refl (M : Nat → Option Obj) : leM M M := fun _ _ h => h
theorem leM.trans {M M' M'' : Nat → Option Obj} (h : leM M M') (h' : leM M' M'') : leM M M'' := fun b o e => h' b o (h b o e)
class HasM (M : Nat → Option Obj) (L : List HP) : Prop where
  at_ : ∀ w F, St w (L ++ F) → ∀ b o, M b = some o → w.heap[b]? = some o
theorem St.roM_read {w : World} {M : Nat → Option Obj} {L : List HP} (H : St w (roM M :: L)) {b : Nat} {o : Obj} (hb : M b = some o) : w.heap[b]? = some o := by
  obtain ⟨h, f, a⟩ := H.read_cons; exact f b _ _ (a b o hb)
instance HasM.here {M : Nat → Option Obj} {L : List HP} : HasM M (roM M :: L) := ⟨fun _ _ H _ _ e => St.roM_read H e⟩
instance (priority := low) HasM.there {M : Nat → Option Obj} {A : HP} {L : List HP} [h : HasM M L] : HasM M (A :: L) := ⟨fun w F H => h.at_ w F H.tail⟩
theorem Ent.roM_dup {M : Nat → Option Obj} {L : List HP} : Ent (roM M :: L) (roM M :: roM M :: L) := fun w F H => by
  refine St.of_sep (L := roM M :: (L ++ F)) (fun hh H => ?_) H
  obtain ⟨h1, h2, ok, rfl, a, l⟩ := H
  refine ⟨fun k => (M k).map (false, ·), h1.add h2, ?_, ?_, fun b o e => by simp [e], h1, h2, ok, rfl, a, l⟩
  · intro k p ob q o2 e1 e2
    cases hm : M k with
    | none => simp [hm] at e1
    | some o =>
      have := a k o hm
      simp [hm] at e1
      simp [Hp.add, this] at e2
      exact ⟨e1.1.symm ▸ rfl, e2.1.symm ▸ rfl, e1.2 ▸ e2.2 ▸ rfl⟩
  · funext k
    simp only [Hp.add]
    cases hm : M k with
    | none => simp
    | some o => simp [a k o hm]
theorem Ent.roM_join {M M' : Nat → Option Obj} {L : List HP} : Ent (roM M :: roM M' :: L) (exH (fun N => allH [pureH (leM M N ∧ leM M' N), roM N]) :: L) := fun w F H => by
  refine St.of_sep (L := roM M :: roM M' :: (L ++ F)) (fun hh H => ?_) H
  obtain ⟨h1, h2, ok, rfl, a, h3, h4, ok', rfl, a', l⟩ := H
  have e12 := Hp.ok_left' ok
  refine ⟨h1.add h3, h4, Hp.ok_add (Hp.ok_right' ok' ok) ok', by rw [Hp.add_assoc], ⟨fun b => (M b).or (M' b), ?_⟩, l⟩
  refine ⟨(fun _ => none : Nat → Option (Bool × Obj)), h1.add h3, fun b p o q o' e => by simp at e, by funext b; simp [Hp.add], ⟨?_, ?_⟩, h1.add h3, (fun _ => none : Nat → Option (Bool × Obj)), fun b p o q o' _ e => by simp at e, by funext b; simp [Hp.add], ?_, trivial⟩
  · intro b o e; simp [e]
  · intro b o e
    show (M b).or (M' b) = some o
    cases hm : M b with
    | none => simpa using e
    | some o1 =>
      have := (e12 b _ _ _ _ (a b o1 hm) (a' b o e)).2.2
      simp [this]
  · intro b o e
    simp only [Hp.add]
    cases hm : M b with
    | none =>
      simp [hm] at e
      cases h1b : h1 b with
      | none => simp [a' b o e]
      | some x =>
        obtain ⟨p, o1⟩ := x
        have := e12 b _ _ _ _ h1b (a' b o e)
        simp [this.1, this.2.2]
    | some o1 => simp [hm] at e; subst e; simp [a b o1 hm]
theorem Ent.nilM {L L' : List HP} (h : Ent L L') : Ent L (roM (fun _ => none) :: L') := h.trans fun w F H =>
  St.of_sep (L := L' ++ F) (fun hh h => ⟨(fun _ => none : Nat → Option (Bool × Obj)), hh, fun b p o q o' e => by simp at e, by funext b; simp [Hp.add], fun b o e => by simp at e, h⟩) H
def oneM (b : Nat) (o : Obj) : Nat → Option Obj := fun k => if k = b then some o else none
theorem Ent.roM_one {b : Nat} {o : Obj} {L : List HP} : Ent (pt b o :: L) (roM (oneM b o) :: L) := Ent.shed.trans fun w F H =>
  St.of_sep (L := ro b o :: (L ++ F)) (fun hh ⟨h1, h2, ok, e, a, l⟩ => ⟨h1, h2, ok, e, fun k o' e' => by
    unfold oneM at e'; split at e'
    · rename_i hk; subst hk; simp at e'; subst e'; exact a
    · simp at e', l⟩) H
def SlM (M : Nat → Option Obj) (a : Option Addr) (m sz : Nat) (cs : List Value) : Prop :=
  cs.length = m * sz ∧ (m = 0 ∨ ∃ b o l t fz, a = some ⟨b, o, none⟩ ∧ M b = some (.cells l t fz) ∧ ∀ j v, cs[j]? = some v → l[o + j]? = some v)
theorem SlM.mono {M M' : Nat → Option Obj} {a : Option Addr} {m sz : Nat} {cs : List Value} (h : SlM M a m sz cs) (hl : leM M M') : SlM M' a m sz cs :=
  ⟨h.1, h.2.imp id fun ⟨b, o, l, t, fz, e1, e2, e3⟩ => ⟨b, o, l, t, fz, e1, hl _ _ e2, e3⟩⟩
theorem SlM.rd {M : Nat → Option Obj} {L : List HP} {a : Option Addr} {m sz : Nat} {cs : List Value} (h : SlM M a m sz cs) [hm : HasM M L] : RdS L a m sz cs :=
  ⟨h.1, h.2.imp id fun ⟨b, o, l, t, fz, e1, e2, e3⟩ => ⟨b, o, e1, fun w F H j v e => by
    have := hm.at_ w F H b _ e2
    simp [World.cell?, this, e3 j v e]⟩⟩
theorem SlM.nil {M : Nat → Option Obj} {a : Option Addr} {sz : Nat} : SlM M a 0 sz [] := ⟨by simp, .inl rfl⟩
theorem Ent.slM {t sz m c : Nat} {a : Option Addr} {cs : List Value} {L : List HP} : Ent (slO t sz a m c cs :: L) (exH (fun M => allH [pureH (SlM M a m sz cs), roM M]) :: L) := fun w F H => by
  obtain ⟨hl, hc⟩ := St.slO_open H
  rcases hc with ⟨rfl, rfl, rfl, rfl, hs⟩ | ⟨b, rest, rfl, hmc, hr, hs⟩
  · refine Ent.shut_ex (P := fun M => allH [pureH (SlM M none 0 sz []), roM M]) (fun _ => none) w F ?_
    refine Ent.shut_all (L := [pureH (SlM (fun _ => none) none 0 sz []), roM (fun _ => none)]) w F ?_
    refine Ent.shut_pure (M := roM (fun _ => none) :: L) SlM.nil w F ?_
    exact St.of_sep (L := L ++ F) (fun hh h => ⟨(fun _ => none : Nat → Option (Bool × Obj)), hh, fun b p o q o' e => by simp at e, by funext b; simp [Hp.add], fun b o e => by simp at e, h⟩) hs
  · have h1 := Ent.roM_one (L := L) w F hs
    refine Ent.shut_ex (P := fun M => allH [pureH (SlM M (some ⟨b, 0, none⟩) m sz cs), roM M]) (oneM b (cl (cs ++ rest) t)) w F ?_
    refine Ent.shut_all (L := [pureH (SlM (oneM b (cl (cs ++ rest) t)) (some ⟨b, 0, none⟩) m sz cs), roM (oneM b (cl (cs ++ rest) t))]) w F ?_
    refine Ent.shut_pure (M := roM (oneM b (cl (cs ++ rest) t)) :: L) ?_ w F h1
    refine ⟨hl, .inr ⟨b, 0, (cs ++ rest).toArray, t, (0, 0), rfl, by simp [oneM, cl], fun j v e => ?_⟩⟩
    have hj : j < cs.length := (List.getElem?_eq_some_iff.1 e).1
    simp [List.getElem?_append_left hj, e]
class PickM (L : List HP) (M : outParam (Nat → Option Obj)) (L0 : outParam (List HP)) : Prop where
  ent : Ent L (roM M :: L0)
instance PickM.here {M : Nat → Option Obj} {L : List HP} : PickM (roM M :: L) M L := ⟨Ent.refl _⟩
instance (priority := low) PickM.there {M : Nat → Option Obj} {A : HP} {L L0 : List HP} [h : PickM L M L0] : PickM (A :: L) M (A :: L0) := ⟨(h.ent.cons).trans (Ent.perm (.swap _ _ _))⟩
theorem Ent.absorb {t sz m c : Nat} {a : Option Addr} {cs : List Value} {L L0 : List HP} {M : Nat → Option Obj} [h : PickM L M L0] : Ent (SX.slO t sz a m c cs :: L) (exH (fun M' => allH [pureH (leM M M' ∧ SlM M' a m sz cs), roM M']) :: L0) := by
  refine (h.ent.cons).trans ?_
  refine Ent.slM.trans ?_
  refine Ent.ex fun M1 => Ent.open_all.trans (Ent.pure fun hs => ?_)
  refine Ent.roM_join.trans (Ent.ex fun N => Ent.open_all.trans (Ent.pure fun hl => ?_))
  refine Ent.trans ?_ (Ent.shut_ex N)
  refine Ent.trans ?_ Ent.shut_all
  exact Ent.shut_pure ⟨hl.2, hs.mono hl.1⟩
theorem opsS_absorb {P : Program} {n : Nat} {ops rest : List Oper} {Q : Post} {f : Env} {t sz m c : Nat} {a : Option Addr} {cs : List Value} {L L0 : List HP} {M : Nat → Option Obj} [h : PickM L M L0]
    (hk : ∀ M', leM M M' → SlM M' a m sz cs → opsS P n ops rest Q f (roM M' :: L0)) : opsS P n ops rest Q f (SX.slO t sz a m c cs :: L) := by
  refine opsS_ent Ent.absorb (opsS_ex fun M' => opsS_all (opsS_pure fun h => hk M' h.1 h.2))
end Go.SX
