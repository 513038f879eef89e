/- More builtins: append in place, clear, cuts of arrays, bytes as strings. No condition. -/
import Derived.Test.YtjidejcehmamkaaDoorSxJ
set_option linter.unusedVariables false
set_option linter.unusedSimpArgs false
namespace Go.SX
open Go
section
variable {P : Program} {n : Nat} {ops rest : List Oper} {Q : Post} {f : Env} {A L : List HP} {E cs σ : List Nat} {listed : Array Bool} {held : Bool}
variable {d : Tmp} {ty : TypeId} {pos : String} {af : Array Edge}

theorem anyS_split {k : Nat} (dg : Nat) {b : Bool} (hd : f dg = some (.bool b)) (ht : b = true → anyS P n ops Q cs A k listed held (upd f dg (.bool true)) L) (hf : b = false → anyS P n ops Q cs A k listed held (upd f dg (.bool false)) L) : anyS P n ops Q cs A k listed held f L := by
  have key : ∀ c, b = c → anyS P n ops Q cs A k listed held (upd f dg (.bool c)) L → anyS P n ops Q cs A k listed held f L := fun c e h ok F a w s =>
    h ok F a w (s.weaken fun i v hv => by
      simp only [upd] at hv
      cases hb : Nat.beq i dg with
      | false => rw [hb] at hv; exact hv
      | true => rw [hb] at hv; rw [Nat.eq_of_beq_eq_true hb, hd, e]; exact hv)
  cases b
  · exact key false rfl (hf rfl)
  · exact key true rfl (ht rfl)
theorem D.gsp {i : Nat} {dd : Option Tmp} {op : Op} {g : Nat × Bool} {dg : Nat} {b : Bool} (hi : ops[i]? = some ⟨dd, op, ty, pos, af, some g⟩) (h0 : (ops[g.1]?).bind (·.dst) = some dg) (hd : f dg = some (.bool b))
    (ht : b = true → drawS P n ops E cs A (i :: σ) Q listed held (upd f dg (.bool true)) L) (hf : b = false → drawS P n ops E cs A (i :: σ) Q listed held (upd f dg (.bool false)) L) : drawS P n ops E cs A (i :: σ) Q listed held f L :=
  fun ho hs hQ => anyS_split dg hd (fun e => ht e ho hs hQ) (fun e => hf e ho hs hQ)

theorem D.gT {i : Nat} {dd : Option Tmp} {op : Op} {g : Nat × Bool} {dg : Nat} {b : Bool} (hi : ops[i]? = some ⟨dd, op, ty, pos, af, some g⟩) (h0 : (ops[g.1]?).bind (·.dst) = some dg) (hd : f dg = some (.bool b)) (hb : b = true)
    (ht : drawS P n ops E cs A (i :: σ) Q listed held (upd f dg (.bool true)) L) : drawS P n ops E cs A (i :: σ) Q listed held f L := D.gsp hi h0 hd (fun _ => ht) (fun h => by rw [hb] at h; cases h)
theorem D.gF {i : Nat} {dd : Option Tmp} {op : Op} {g : Nat × Bool} {dg : Nat} {b : Bool} (hi : ops[i]? = some ⟨dd, op, ty, pos, af, some g⟩) (h0 : (ops[g.1]?).bind (·.dst) = some dg) (hd : f dg = some (.bool b)) (hb : b = false)
    (hf : drawS P n ops E cs A (i :: σ) Q listed held (upd f dg (.bool false)) L) : drawS P n ops E cs A (i :: σ) Q listed held f L := D.gsp hi h0 hd (fun h => by rw [hb] at h; cases h) (fun _ => hf)
theorem Y.sl3 {x lo hi mx : Operand} {t e : TypeId} {a : Option Addr} {m c sz bts : Nat} {ag : Bool} {zs : List Value} {l h mm : Nat} {i j k : Int} {kl kh km : IntKind} [hs : SlTy P t e] [h2 : Ty P e ag sz zs bts] (hx : ev f x = some (.slice a m c))
    (hl : ev f lo = some (.int kl i)) (hh : ev f hi = some (.int kh j)) (hm : ev f mx = some (.int km k)) (el : i = (l : Int)) (eh : j = (h : Int)) (em : k = (mm : Int)) (h1 : l ≤ h) (h3 : h ≤ mm) (h4 : mm ≤ c) :
    YieldS P n ops ⟨some d, .slice t x (some lo) (some hi) (some mx), ty, pos, af, none⟩ f A (.slice (if mm = l then a else a.map (·.add (l * sz))) (h - l) (mm - l)) := by
  refine Y.of (fun ac w s => ?_)
  subst el eh em
  have e1 : (l : Int) ≤ (h : Int) := by omega
  have e2 : (h : Int) ≤ (mm : Int) := by omega
  have e3 : (mm : Int) ≤ (c : Int) := by omega
  simp [execOp, s.eval hx, s.eval hl, s.eval hh, s.eval hm, Instr.sliceAt, hs.und, Instr.slice, Instr.sliceBounds, h2.size, Instr.sliceBound, asIntOf, h1, h3, h4]
theorem Y.slT {x hi : Operand} {t e : TypeId} {a : Option Addr} {m c sz bts h : Nat} {ag : Bool} {zs : List Value} {j : Int} {kh : IntKind} [hs : SlTy P t e] [h2 : Ty P e ag sz zs bts] (hx : ev f x = some (.slice a m c))
    (hh : ev f hi = some (.int kh j)) (eh : j = (h : Int)) (h3 : h ≤ c) : YieldS P n ops ⟨some d, .slice t x none (some hi) none, ty, pos, af, none⟩ f A (.slice a h c) := by
  refine Y.of (fun ac w s => ?_)
  subst eh
  have e1 : ∀ ad : Addr, ad.add 0 = ad := fun _ => rfl
  cases a <;> simp [execOp, s.eval hx, s.eval hh, Instr.sliceAt, hs.und, Instr.slice, Instr.sliceBounds, h2.size, Instr.sliceBound, asIntOf, h3, e1]
theorem Y.slF {x lo : Operand} {t e : TypeId} {b o m c sz bts l : Nat} {ag : Bool} {zs : List Value} {i : Int} {kl : IntKind} [hs : SlTy P t e] [h2 : Ty P e ag sz zs bts] (hx : ev f x = some (.slice (some ⟨b, o, none⟩) m c))
    (hl : ev f lo = some (.int kl i)) (el : i = (l : Int)) (h1 : l ≤ m) : YieldS P n ops ⟨some d, .slice t x (some lo) none none, ty, pos, af, none⟩ f A (.slice (some ⟨b, if c = l then o else o + l * sz, none⟩) (m - l) (c - l)) := by
  refine Y.of (fun ac w s => ?_)
  subst el
  have e2 : (⟨b, o, none⟩ : Addr).add (l * sz) = ⟨b, o + l * sz, none⟩ := by unfold Addr.add; split <;> simp_all
  have e1 : (l : Int) ≤ (m : Int) := by omega
  by_cases hc : c = l <;> simp [execOp, s.eval hx, s.eval hl, Instr.sliceAt, hs.und, Instr.slice, Instr.sliceBounds, h2.size, Instr.sliceBound, asIntOf, h1, hc, e2]
theorem Y.slFn {x lo : Operand} {t e : TypeId} {c sz bts : Nat} {ag : Bool} {zs : List Value} {i : Int} {kl : IntKind} [hs : SlTy P t e] [h2 : Ty P e ag sz zs bts] (hx : ev f x = some (.slice none 0 c))
    (hl : ev f lo = some (.int kl i)) (el : i = 0) : YieldS P n ops ⟨some d, .slice t x (some lo) none none, ty, pos, af, none⟩ f A (.slice none 0 c) := by
  refine Y.of (fun ac w s => ?_)
  subst el
  by_cases hc : c = 0 <;> simp [execOp, s.eval hx, s.eval hl, Instr.sliceAt, hs.und, Instr.slice, Instr.sliceBounds, h2.size, Instr.sliceBound, asIntOf, hc]
theorem Y.slB {x lo hi : Operand} {t e : TypeId} {b o m c sz bts l h : Nat} {ag : Bool} {zs : List Value} {i j : Int} {kl kh : IntKind} [hs : SlTy P t e] [h2 : Ty P e ag sz zs bts] (hx : ev f x = some (.slice (some ⟨b, o, none⟩) m c))
    (hl : ev f lo = some (.int kl i)) (hh : ev f hi = some (.int kh j)) (el : i = (l : Int)) (eh : j = (h : Int)) (h1 : l ≤ h) (h3 : h ≤ c) :
    YieldS P n ops ⟨some d, .slice t x (some lo) (some hi) none, ty, pos, af, none⟩ f A (.slice (some ⟨b, if c = l then o else o + l * sz, none⟩) (h - l) (c - l)) := by
  refine Y.of (fun ac w s => ?_)
  subst el eh
  have e2 : (⟨b, o, none⟩ : Addr).add (l * sz) = ⟨b, o + l * sz, none⟩ := by unfold Addr.add; split <;> simp_all
  have e1 : (l : Int) ≤ (h : Int) := by omega
  have e3 : (h : Int) ≤ (c : Int) := by omega
  by_cases hc : c = l
  · subst hc
    obtain rfl : h = c := by omega
    simp [execOp, s.eval hx, s.eval hl, s.eval hh, Instr.sliceAt, hs.und, Instr.slice, Instr.sliceBounds, h2.size, Instr.sliceBound, asIntOf]
  · simp [execOp, s.eval hx, s.eval hl, s.eval hh, Instr.sliceAt, hs.und, Instr.slice, Instr.sliceBounds, h2.size, Instr.sliceBound, asIntOf, h1, h3, hc, e2]
theorem RdS.from {b o m c l sz : Nat} {cs : List Value} (hr : RdC L b o cs) (hl : cs.length = m * sz) (h1 : l ≤ m) (h2 : m ≤ c) : RdS L (some ⟨b, if c = l then o else o + l * sz, none⟩) (m - l) sz (cs.drop (l * sz)) := by
  refine ⟨by rw [List.length_drop, hl, Nat.sub_mul], ?_⟩
  by_cases hc : c = l
  · exact .inl (by omega)
  · rw [if_neg hc]
    exact .inr ⟨b, _, rfl, hr.part fun j v e => by rwa [List.getElem?_drop] at e⟩
theorem Y.sla {x : Operand} {t e : TypeId} {b o len sz bts : Nat} {ag : Bool} {zs : List Value} [h : ArrTy P t len e] [h2 : Ty P e ag sz zs bts] (hx : ev f x = some (.pointer (some ⟨b, o, none⟩))) :
    YieldS P n ops ⟨some d, .slice t x none none none, ty, pos, af, none⟩ f A (.slice (some ⟨b, o, none⟩) len len) := by
  refine Y.of (fun ac w s => ?_)
  have : (⟨b, o, none⟩ : Addr).add 0 = ⟨b, o, none⟩ := rfl
  simp [execOp, s.eval hx, Instr.sliceAt, h.und, Instr.sureAddr, Instr.sliceBounds, h2.size, this]
theorem Y.b2s {x : Operand} {src dst e : TypeId} {a : Option Addr} {c : Nat} {bs : List UInt8} [h1 : SlTy P src e] [h2 : IntTy P e .u8] [h3 : StrTy P dst] (hx : ev f x = some (.slice a bs.length c)) (hr : RdS A a bs.length 1 (bs.map B)) :
    YieldS P n ops ⟨some d, .convert src dst x, ty, pos, af, none⟩ f A (str bs) := by
  refine Y.of' fun ac w F s t => ?_
  have key : (convert src dst (.slice a bs.length c)).run P w = .ok (str bs) w := by
    cases a with
    | none =>
      have h0 : bs.length = 0 := by
        rcases hr.2 with h | ⟨_, _, h, _⟩
        · exact h
        · cases h
      have : bs = [] := List.eq_nil_of_length_eq_zero h0
      subst this
      exact run_convert_bytes_nil w src e h1.raw h2.raw _ _ dst h3.raw
    | some ad =>
      refine run_convert_bytes_back w src dst e ad c bs h1.raw h2.raw h3.raw (fun j hj => ?_)
      rcases hr.2 with h | ⟨b, o, he, hc⟩
      · omega
      · cases he
        have := hc w F t j (B bs[j]) (by simp [hj])
        have e2 : (⟨b, o, none⟩ : Addr).add j = ⟨b, o + j, none⟩ := by unfold Addr.add; split <;> simp_all
        rw [e2]; exact this
  simp [execOp, s.eval hx, key]
theorem S.appIn {x y : Operand} {t tx e t0 : TypeId} {sz bts : Nat} {ag : Bool} {zs : List Value} {b m c k : Nat} {v : Value} {l l' ys : List Value} {L' : Obj → List HP} [h : SlTy P t e] [h2 : Ty P e ag sz zs bts] [hu : UpdB b L (cl l t0) L']
    (hx : ev f x = some (.slice (some ⟨b, 0, none⟩) m c)) (hy : ev f y = some v) (hs : SrcS P L sz tx v k ys) (hl : l.length = c * sz) (hroom : m + k ≤ c) (hl' : putAt l (m * sz) ys = l')
    (hk : opsS P n ops rest Q (upd f d (.slice (some ⟨b, 0, none⟩) (m + k) c)) (L' (cl l' t0))) :
    opsS P n ops (⟨some d, .call ⟨.builtin .append, #[x, y], #[t, tx]⟩, ty, pos, af, none⟩ :: rest) Q f L := by
  obtain ⟨i, z, hi, hisz, hib, hiz, hzz⟩ := h2.raw
  refine opsS_value (R := fun v L1 => v = .slice (some ⟨b, 0, none⟩) (m + k) c ∧ L1 = L' (cl l' t0)) (fun F ac w s t1 => ?_) (by rintro _ _ ⟨rfl, rfl⟩; exact hk)
  have hrow := hu.read t1
  have hsrc := hs.src w F t1
  have hyl : ys.length = k * sz := hsrc.newsLen
  have hlen : m * sz + ys.length ≤ l.length := by rw [hl, hyl, ← Nat.add_mul]; exact Nat.mul_le_mul_right _ hroom
  have hr := run_append_room_src (P := P) w t tx ty e i h.raw hi b 0 m c v k ys (hisz ▸ hsrc) hroom (fun j hj => by
    rw [hisz]
    have : m * sz + j < l.length := by omega
    simp only [World.cell?, hrow, cl]
    simp [Nat.zero_add, List.getElem?_eq_getElem this]) (fun j hj => by simp [World.frozen?, hrow, cl])
  rw [hisz, Nat.zero_add] at hr
  obtain ⟨e1, e2⟩ := setCells_eq b t0 w ys l (m * sz) hrow hlen
  refine ⟨_, w.setCells b (m * sz) ys, _, ?_, ?_, rfl, rfl⟩
  · simp [execOp, resolve, invoke, s.eval hx, s.eval hy, builtin, hr]
  · obtain ⟨R, p1, p2⟩ := hu.at_
    have H1 : St w (pt b (cl l t0) :: (R ++ F)) := by simpa using St.perm (p1.append_right F) t1
    have H2 := St.pt_write (w' := w.setCells b (m * sz) ys) (o' := cl l' t0) H1 (by rw [e1, hl']) e2 (setCells_ext ..)
    exact St.perm ((p2 _).append_right F) (by simpa using H2)
theorem S.clr {x : Operand} {t e t0 : TypeId} {sz bts : Nat} {ag : Bool} {zs : List Value} {b o m c : Nat} {l l' : List Value} {L' : Obj → List HP} [h : SlTy P t e] [h2 : Ty P e ag sz zs bts] [hu : UpdB b L (cl l t0) L']
    (hx : ev f x = some (.slice (some ⟨b, o, none⟩) m c)) (hz : zs.length = sz) (h1 : zs.all (·.oneCell') = true) (hl : o + m * sz ≤ l.length) (hl' : putAt l o (rep m zs) = l')
    (hk : opsS P n ops rest Q f (L' (cl l' t0))) : opsS P n ops (⟨none, .call ⟨.builtin .clear, #[x], #[t]⟩, ty, pos, af, none⟩ :: rest) Q f L := by
  obtain ⟨z, hzv, hz2⟩ := h2.zero
  intro ok F a w s t1
  simp only [okOps, List.all_cons, Bool.and_eq_true] at ok
  refine wpList_plain rfl fun K hK => ?_
  have hrow := hu.read t1
  have hrl : (rep m zs).length = m * sz := by rw [rep_length, hz]
  have hone : ∀ v ∈ rep m zs, v.oneCell' = true := by
    intro v hv
    have : ∀ m, v ∈ rep m zs → v ∈ zs := fun m => by
      induction m with
      | zero => intro h; simp [rep] at h
      | succ m ih => intro h; simp only [rep, List.mem_append] at h; exact h.elim id ih
    simpa using List.all_eq_true.1 h1 v (this m hv)
  have hst := run_storeCells_at P b o t0 (rep m zs) 0 l.toArray w hrow (by simpa [hrl] using hl) hone
  have hzc : z.cells.size = sz := by rw [← hz, ← hz2]; simp
  have hzr : Builtin.zeroCells z.cells m = (rep m zs).toArray := by
    have := zero_row z.cells m sz hzc
    rw [hz2] at this
    simpa [Builtin.zeroCells, hzc] using this
  have hrun : ∃ w', (execOp a.eval ⟨none, .call ⟨.builtin .clear, #[x], #[t]⟩, ty, pos, af, none⟩).run P w = .ok (.value (.tuple #[])) w' ∧ St w' (L' (cl l' t0) ++ F) := by
    cases m with
    | zero =>
      refine ⟨w, ?_, ?_⟩
      · simp [execOp, resolve, invoke, s.eval hx, builtin, Builtin.clear_, h.und]
      · have : l' = l := by rw [← hl']; simp [putAt, rep]
        rw [this]
        obtain ⟨R, p1, p2⟩ := hu.at_
        exact St.perm ((p1.trans (p2 _)).append_right F) t1
    | succ m =>
      refine ⟨w.setRow b l'.toArray, ?_, setRow_heap_of hrow t1⟩
      simp only [Nat.add_zero] at hst
      unfold putAt at hl'
      rw [hl'] at hst
      simp [execOp, resolve, invoke, s.eval hx, builtin, Builtin.clear_, h.und, hzv, hzr, hst]
  obtain ⟨w', hr, ht⟩ := hrun
  simp only [Oper.wp, hr, Oper.upon]
  exact hK _ _ (hk ok.2 F _ _ (s.put ok.1 _) ht)
end
end Go.SX
