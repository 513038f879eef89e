/- The builtins: append, copy, clear, min, max; slices that are owned. No condition. -/
import Derived.Test.YtieejgbjgcbbjaaSxF
import Derived.Deep.AppendSrc
set_option linter.unusedVariables false
set_option linter.unusedSimpArgs false
namespace Go.SX
open Go

/-- A slice that is owned: m elements of sz cells each, in a block of their own, from its beginning on; nil: none. -/
def slO (t sz : Nat) (a : Option Addr) (m c : Nat) (cs : List Value) : HP := fun _ h =>
  cs.length = m * sz ∧ ((a = none ∧ m = 0 ∧ c = 0) ∨ ∃ b rest, a = some ⟨b, 0, none⟩ ∧ m ≤ c ∧ (cs ++ rest).length = c * sz ∧ h b = some (true, cl (cs ++ rest) t))
/-- The same, given up for writing. -/
def slR (sz : Nat) (a : Option Addr) (m : Nat) (cs : List Value) : HP := fun _ h =>
  cs.length = m * sz ∧ ((a = none ∧ m = 0) ∨ ∃ b o t fz l, a = some ⟨b, o, none⟩ ∧ h b = some (false, .cells l t fz) ∧ ∀ j v, cs[j]? = some v → l[o + j]? = some v)

class UpdS (a : Option Addr) (L : List HP) (t sz m c : outParam Nat) (cs : outParam (List Value)) (L' : outParam (HP → List HP)) : Prop where
  at_ : ∃ R, L.Perm (slO t sz a m c cs :: R) ∧ ∀ x, (x :: R).Perm (L' x)
instance UpdS.here {a : Option Addr} {t sz m c : Nat} {cs : List Value} {L : List HP} : UpdS a (slO t sz a m c cs :: L) t sz m c cs (fun x => x :: L) := ⟨L, .refl _, fun _ => .refl _⟩
instance (priority := low) UpdS.there {a : Option Addr} {t sz m c : Nat} {cs : List Value} {A : HP} {L : List HP} {L' : HP → List HP} [h : UpdS a L t sz m c cs L'] : UpdS a (A :: L) t sz m c cs (fun x => A :: L' x) := by
  obtain ⟨R, h1, h2⟩ := h.at_
  exact ⟨A :: R, (h1.cons A).trans (.swap _ _ _), fun x => List.Perm.trans (.swap _ _ _) ((h2 x).cons A)⟩

theorem slO_fold {b t sz m : Nat} {cs : List Value} {L : List HP} (h : cs.length = m * sz) : Ent (pt b (cl cs t) :: L) (slO t sz (some ⟨b, 0, none⟩) m m cs :: L) := fun w F H =>
  St.of_sep (L := pt b (cl cs t) :: (L ++ F)) (fun hh ⟨h1, h2, o, e, p, r⟩ => ⟨h1, h2, o, e, ⟨h, .inr ⟨b, [], rfl, Nat.le_refl _, by simpa using h, by have p' : h1 b = some (true, cl cs t) := p; simpa using p'⟩⟩, r⟩) H
theorem slO_nil {t sz : Nat} {L : List HP} : Ent L (slO t sz none 0 0 [] :: L) := fun w F H =>
  St.of_sep (fun hh hl => ⟨(fun _ => none : Nat → Option (Bool × Obj)), hh, fun b p o q o' e => by simp at e, by funext b; simp [Hp.add], ⟨by simp, .inl ⟨rfl, rfl, rfl⟩⟩, hl⟩) H
theorem Ent.nilS {t sz : Nat} {L L' : List HP} (h : Ent L L') : Ent L (slO t sz none 0 0 [] :: L') := h.trans slO_nil
/-- What an owned slice's state says. -/
theorem St.slO_open {w : World} {t sz m c : Nat} {a : Option Addr} {cs : List Value} {L : List HP} (H : St w (slO t sz a m c cs :: L)) :
    cs.length = m * sz ∧ ((a = none ∧ m = 0 ∧ c = 0 ∧ cs = [] ∧ St w L) ∨ ∃ b rest, a = some ⟨b, 0, none⟩ ∧ m ≤ c ∧ (cs ++ rest).length = c * sz ∧ St w (pt b (cl (cs ++ rest) t) :: L)) := by
  obtain ⟨h0, f, h1, h2, o, e, ⟨hl, hp⟩, m⟩ := H
  refine ⟨hl, ?_⟩
  rcases hp with ⟨ha, hm, hc⟩ | ⟨b, rest, ha, hm, hc, hb⟩
  · refine .inl ⟨ha, hm, hc, List.eq_nil_of_length_eq_zero (by rw [hl, hm]; simp), h2, ?_, m⟩
    subst e; exact Hp.fits_right o f
  · exact .inr ⟨b, rest, ha, hm, hc, h0, f, h1, h2, o, e, hb, m⟩
theorem St.slO_shut {w : World} {t sz m c b : Nat} {cs rest : List Value} {L : List HP} (hl : cs.length = m * sz) (hm : m ≤ c) (hc : (cs ++ rest).length = c * sz) (H : St w (pt b (cl (cs ++ rest) t) :: L)) : St w (slO t sz (some ⟨b, 0, none⟩) m c cs :: L) :=
  St.of_sep (L := pt b (cl (cs ++ rest) t) :: L) (fun hh ⟨h1, h2, o, e, p, r⟩ => ⟨h1, h2, o, e, ⟨hl, .inr ⟨b, rest, rfl, hm, hc, p⟩⟩, r⟩) H
theorem St.slO_none {w : World} {t sz : Nat} {L : List HP} (H : St w L) : St w (slO t sz none 0 0 [] :: L) := slO_nil (t := t) (sz := sz) (L := L) w [] (by simpa using H) |> fun h => by simpa using h
/-- It can be read. -/
theorem RdC.slO {L : List HP} {t sz m c b : Nat} {cs : List Value} (h : ∃ R, Ent L (slO t sz (some ⟨b, 0, none⟩) m c cs :: R)) : RdC L b 0 cs := fun w F H j v e => by
  obtain ⟨R, h⟩ := h
  have := St.slO_open (h w F H)
  rcases this.2 with ⟨h1, _⟩ | ⟨b', rest, h1, _, _, h4⟩
  · simp at h1
  · simp only [Option.some.injEq, Addr.mk.injEq, and_true] at h1
    subst h1
    have := St.pt_read h4
    have hj : j < cs.length := (List.getElem?_eq_some_iff.1 e).1
    simp [World.cell?, this, cl, List.getElem?_append_left hj, e]

section
variable {P : Program} {n : Nat} {ops rest : List Oper} {Q : Post} {f : Env} {L : List HP}
variable {d : Tmp} {ty : TypeId} {pos : String} {af : Array Edge}

theorem setCells_ext (b : Nat) : ∀ (vs : List Value) (o : Nat) (w : World), ext (w.setCells b o vs) = ext w
  | [], _, _ => rfl
  | v :: r, o, w => (setCells_ext b r (o + 1) (w.setCell ⟨b, o, none⟩ v)).trans rfl
theorem setCells_eq (b : Nat) (t : TypeId) (w : World) : ∀ (vs l : List Value) (o : Nat), w.heap[b]? = some (cl l t) → o + vs.length ≤ l.length →
    (w.setCells b o vs).heap[b]? = some (cl (putAt l o vs) t) ∧ ∀ k, k ≠ b → (w.setCells b o vs).heap[k]? = w.heap[k]? := by
  intro vs
  induction vs generalizing w with
  | nil => intro l o h hl; simp [World.setCells, putAt, h]
  | cons v r ih =>
    intro l o h hl
    simp only [List.length_cons] at hl
    have h1 : (w.setCell ⟨b, o, none⟩ v).heap[b]? = some (cl (l.set o v) t) := by
      simp [World.setCell, Array.getElem?_modify, h, cl]
    obtain ⟨e1, e2⟩ := ih (w.setCell ⟨b, o, none⟩ v) (l.set o v) (o + 1) h1 (by simp; omega)
    refine ⟨?_, fun k hk => ?_⟩
    · simp only [World.setCells]
      rw [e1]
      have := Go.list_seg_step l o v r (by omega)
      simp only [putAt, List.length_cons]
      rw [← this]
    · simp only [World.setCells]
      rw [e2 k hk]
      simp [World.setCell, Array.getElem?_modify, Ne.symm hk]
/-- What is appended. -/
structure SrcS (P : Program) (L : List HP) (sz : Nat) (tx : TypeId) (x : Value) (k : Nat) (ys : List Value) : Prop where
  src : ∀ w F, St w (L ++ F) → Src P sz tx x k ys w
theorem SrcS.sl {sz : Nat} {tx e' : TypeId} [h : SlTy P tx e'] {b o k c : Nat} {ys : List Value} (hr : RdC L b o ys) (hl : ys.length = k * sz) (h1 : ys.all (·.oneCell') = true) : SrcS P L sz tx (.slice (some ⟨b, o, none⟩) k c) k ys :=
  ⟨fun w F H => Src.ofSlice w h.raw ⟨b, o, none⟩ k c ys hl (fun j u e => by
    have := hr w F H j u e
    have e2 : (⟨b, o, none⟩ : Addr).add j = ⟨b, o + j, none⟩ := by unfold Addr.add; split <;> simp_all
    rw [e2]; exact this) (fun u hu => by simpa using List.all_eq_true.1 h1 u hu)⟩
theorem SrcS.nil {sz : Nat} {tx e' : TypeId} [h : SlTy P tx e'] {c : Nat} : SrcS P L sz tx (.slice none 0 c) 0 [] := ⟨fun w F H => Src.ofNil w h.raw c⟩

/-- append onto a slice that is owned. -/
theorem S.app {x y : Operand} {t tx e : TypeId} {sz bts : Nat} {ag : Bool} {zs : List Value} {a : Option Addr} {m c k : Nat} {v : Value} {cs ys : List Value} {L' : HP → List HP} [h : SlTy P t e] [h2 : Ty P e ag sz zs bts] [hu : UpdS a L e sz m c cs L']
    (hx : ev f x = some (.slice a m c)) (hy : ev f y = some v) (hs : SrcS P L sz tx v k ys) (hz : zs.length = sz) (hfit : (m + k) * bts ≤ 140737488355328) (h63 : m + k ≤ 9223372036854775807)
    (hk : ∀ a' c', opsS P n ops rest Q (upd f d (.slice a' (m + k) c')) (L' (slO e sz a' (m + k) c' (cs ++ ys)))) :
    opsS P n ops (⟨some d, .call ⟨.builtin .append, #[x, y], #[t, tx]⟩, ty, pos, af, none⟩ :: rest) Q f L := by
  obtain ⟨i, z, hi, hisz, hib, hiz, hzz⟩ := h2.raw
  refine opsS_value (R := fun v L1 => ∃ a' c', v = .slice a' (m + k) c' ∧ L1 = L' (slO e sz a' (m + k) c' (cs ++ ys))) (fun F ac w s t0 => ?_) (by rintro _ _ ⟨a', c', rfl, rfl⟩; exact hk a' c')
  obtain ⟨R, p1, p2⟩ := hu.at_
  have H1 : St w (slO e sz a m c cs :: (R ++ F)) := by simpa using St.perm (p1.append_right F) t0
  have hsrc := hs.src w F t0
  obtain ⟨hcl, hcase⟩ := St.slO_open H1
  have hev : (execOp ac.eval ⟨some d, .call ⟨.builtin .append, #[x, y], #[t, tx]⟩, ty, pos, af, none⟩).run P w = ((Builtin.append_ #[t, tx] ty #[.slice a m c, v]).run P w).andThen fun u w' => .ok (.value u) w' := by
    simp [execOp, resolve, invoke, s.eval hx, s.eval hy, builtin]
  rw [hev]
  clear hev
  have hyl : ys.length = k * sz := by rw [hsrc.newsLen]
  have grow : ∀ (hg : c < m + k), (Builtin.firstCells i.size m (.slice a m c)).run P w.drew = .ok cs.toArray w.drew → St w (R ++ F) →
      ∃ v' w' L1, (((Builtin.append_ #[t, tx] ty #[.slice a m c, v]).run P w).andThen fun u w' => Result.ok (Next.value u) w') = Result.ok (Next.value v') w' ∧ St w' (L1 ++ F) ∧ ∃ a' c', v' = Value.slice a' (m + k) c' ∧ L1 = L' (slO e sz a' (m + k) c' (cs ++ ys)) := by
    intro hg hold hR
    have hfit' : Builtin.nextslicecap (m + k) c * i.bytes ≤ 281474976710656 := growslice_fits hg (by rw [hib]; exact hfit)
    have hr := run_append_grow_src (P := P) w t tx ty e i z h.raw hi hiz a m c cs hold v k ys (hisz ▸ hsrc) hg (by omega) hfit'
    refine ⟨_, _, L' (slO e sz (some ⟨w.heap.size, 0, none⟩) (m + k) (grownCap w (m + k) c e) (cs ++ ys)), by rw [hr]; rfl, ?_, _, _, rfl, rfl⟩
    have hcap : m + k ≤ grownCap w (m + k) c e := by
      simp only [grownCap, Question.cut]; omega
    have hcl2 : (cs ++ ys).length = (m + k) * sz := by simp [hcl, hyl, Nat.add_mul]
    have hzl : z.cells.size = sz := by rw [← hz, ← hzz]; simp
    have H2 : St (w.drew.alloc (.cells ((cs ++ ys).toArray ++ Builtin.zeroCells z.cells (grownCap w (m + k) c e - (m + k))) e)) (pt w.heap.size (cl ((cs ++ ys) ++ (Builtin.zeroCells z.cells (grownCap w (m + k) c e - (m + k))).toList) e) :: (R ++ F)) := by
      refine St.pt_new hR ?_
      show w.heap.push _ = _
      congr 1
      simp [cl]
    have H3 := St.slO_shut hcl2 hcap (by
      simp only [List.length_append, hcl, hyl, Builtin.zeroCells, Array.length_toList, Array.size_map, Array.size_range, hzl]
      rw [← Nat.add_mul, ← Nat.add_mul]; congr 1; omega) H2
    exact St.perm ((p2 _).append_right F) (by simpa using H3)
  rcases hcase with ⟨rfl, rfl, rfl, rfl, hR⟩ | ⟨b, rest', rfl, hmc, hrl, hpt⟩
  · by_cases hk0 : k = 0
    · subst hk0
      have hys : ys = [] := List.eq_nil_of_length_eq_zero (by simpa using hyl)
      subst hys
      refine ⟨.slice none 0 0, w, L' (slO e sz none 0 0 []), ?_, ?_, none, 0, rfl, rfl⟩
      · have := hsrc.cells
        rcases hsrc.kind with ⟨e', hk'⟩ | hk' <;> simp [Builtin.append_, run_underlying h.raw, run_underlying hk', sizeOf, typeInfo, hi, hsrc.len, hisz, this]
      · exact St.perm ((p2 _).append_right F) (by simpa using St.slO_none (t := e) (sz := sz) hR)
    · exact grow (by omega) (by rw [run_firstCells_none]) hR
  · have hrow := St.pt_read hpt
    by_cases hroom : m + k ≤ c
    · have hlen : m * sz + ys.length ≤ (cs ++ rest').length := by rw [hrl, hyl, ← Nat.add_mul]; exact Nat.mul_le_mul_right _ hroom
      have hr := run_append_room_src (P := P) w t tx ty e i h.raw hi b 0 m c v k ys (hisz ▸ hsrc) hroom (fun j hj => by
        rw [hisz]
        have : m * sz + j < (cs ++ rest').length := by omega
        simp only [World.cell?, hrow, cl]
        simp [Nat.zero_add, List.getElem?_eq_getElem this]) (fun j hj => by simp [World.frozen?, hrow, cl])
      rw [hisz, Nat.zero_add] at hr
      refine ⟨.slice (some ⟨b, 0, none⟩) (m + k) c, _, L' (slO e sz (some ⟨b, 0, none⟩) (m + k) c (cs ++ ys)), by rw [hr]; rfl, ?_, _, _, rfl, rfl⟩
      obtain ⟨e1, e2⟩ := setCells_eq b e w ys (cs ++ rest') (m * sz) hrow hlen
      have hput : putAt (cs ++ rest') (m * sz) ys = (cs ++ ys) ++ rest'.drop ys.length := by
        simp only [putAt, ← hcl, List.take_left, List.drop_append, List.append_assoc]
        congr 2
        rw [List.drop_eq_nil_of_le (by omega)]; simp
      have H2 := St.pt_write (w' := w.setCells b (m * sz) ys) (o' := cl ((cs ++ ys) ++ rest'.drop ys.length) e) hpt (by rw [e1, hput]) e2 (setCells_ext ..)
      have H3 := St.slO_shut (m := m + k) (c := c) (sz := sz) (by simp [hcl, hyl, Nat.add_mul]) hroom (by
        simp only [List.length_append, List.length_drop] at hrl hlen ⊢; omega) H2
      exact St.perm ((p2 _).append_right F) (by simpa using H3)
    · refine grow (by omega) ?_ hpt.tail
      refine run_firstCells_some w.drew i.size m _ m c cs (by rw [hisz]; exact hcl) (fun j u hj => ?_)
      have e2 : (⟨b, 0, none⟩ : Addr).add j = ⟨b, j, none⟩ := by unfold Addr.add; split <;> simp_all
      have hj' : j < cs.length := (List.getElem?_eq_some_iff.1 hj).1
      have hrow' : w.drew.heap[b]? = some (cl (cs ++ rest') e) := hrow
      rw [e2]; simp [World.cell?, hrow', cl, List.getElem?_append_left hj', hj]
/-- append onto an owned slice of no elements. -/
theorem S.app0 {x y : Operand} {t tx e : TypeId} {sz bts : Nat} {ag : Bool} {zs : List Value} {a : Option Addr} {c k : Nat} {v : Value} {cs ys : List Value} {L' : HP → List HP} [h : SlTy P t e] [h2 : Ty P e ag sz zs bts] [hu : UpdS a L e sz 0 c cs L']
    (hx : ev f x = some (.slice a 0 c)) (hy : ev f y = some v) (hcs : cs = []) (hs : SrcS P L sz tx v k ys) (hz : zs.length = sz) (hfit : k * bts ≤ 140737488355328) (h63 : k ≤ 9223372036854775807)
    (hk : ∀ a' c', opsS P n ops rest Q (upd f d (.slice a' k c')) (L' (slO e sz a' k c' ys))) :
    opsS P n ops (⟨some d, .call ⟨.builtin .append, #[x, y], #[t, tx]⟩, ty, pos, af, none⟩ :: rest) Q f L := by
  subst hcs
  refine S.app hx hy hs hz (by simpa using hfit) (by simpa using h63) (fun a' c' => ?_)
  simpa using hk a' c'
end
theorem CallsS.slO {P : Program} {g : FuncId} {args : List Value} {L : List HP} {R : Value → List HP → Prop} {t sz m c : Nat} {a : Option Addr} {cs : List Value} (hm : 0 < m)
    (h : ∀ b rest, a = some ⟨b, 0, none⟩ → m ≤ c → (cs ++ rest).length = c * sz → CallsS P g args (pt b (cl (cs ++ rest) t) :: L) R) : CallsS P g args (slO t sz a m c cs :: L) R := fun F w H => by
  rcases (St.slO_open H).2 with ⟨_, h0, _⟩ | ⟨b, rest, e, h1, h2, h3⟩
  · omega
  · exact h b rest e h1 h2 F w h3
theorem slO_shut {b t sz m c : Nat} {cs rest : List Value} {L : List HP} (hl : cs.length = m * sz) (hm : m ≤ c) (hc : (cs ++ rest).length = c * sz) : Ent (pt b (cl (cs ++ rest) t) :: L) (slO t sz (some ⟨b, 0, none⟩) m c cs :: L) := fun w F H => St.slO_shut hl hm hc H
end Go.SX
