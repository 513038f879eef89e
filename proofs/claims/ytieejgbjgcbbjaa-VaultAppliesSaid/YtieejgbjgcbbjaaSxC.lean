/- The operations, one by one, over lists of assertions. No condition. -/
import Derived.Test.YtieejgbjgcbbjaaSxB
set_option linter.unusedVariables false
set_option linter.unusedSimpArgs false
namespace Go.SX
open Go

/-! Facts on types, as classes: the search finds them by the type's number. -/
class Ty (P : Program) (t : TypeId) (agg : outParam Bool) (size : outParam Nat) (zero : outParam (List Value)) (bytes : outParam Nat) : Prop where
  raw : ∃ (i : TypeInfo) (z : Value), P.info? t = some i ∧ i.size = size ∧ i.bytes = bytes ∧ i.zero = some z ∧ z.cells.toList = zero
  agg : ∀ w, (isAgg t).run P w = .ok agg w
  size : ∀ w, (sizeOf t).run P w = .ok size w
  zero : ∃ z, (∀ w, (zeroValue t).run P w = .ok z w) ∧ z.cells.toList = zero
  info : ∃ i, (∀ w, (typeInfo t).run P w = .ok i w) ∧ i.bytes = bytes
class SlTy (P : Program) (t : TypeId) (e : outParam TypeId) : Prop where
  und : ∀ w, (underlying t).run P w = .ok (.slice e) w
  raw : P.underlying t = some (.slice e)
class IntTy (P : Program) (t : TypeId) (k : outParam IntKind) : Prop where
  und : ∀ w, (underlying t).run P w = .ok (.int k) w
  raw : P.underlying t = some (.int k)
class MapTy (P : Program) (t : TypeId) (k e : outParam TypeId) : Prop where
  und : ∀ w, (underlying t).run P w = .ok (.map k e) w
  raw : P.underlying t = some (.map k e)
class PtrTy (P : Program) (t : TypeId) (e : outParam TypeId) : Prop where
  und : ∀ w, (underlying t).run P w = .ok (.pointer e) w
  raw : P.underlying t = some (.pointer e)
class StrTy (P : Program) (t : TypeId) : Prop where
  und : ∀ w, (underlying t).run P w = .ok .string w
  raw : P.underlying t = some (.string)
class ArrTy (P : Program) (t : TypeId) (len : outParam Nat) (e : outParam TypeId) : Prop where
  und : ∀ w, (underlying t).run P w = .ok (.array len e) w
  raw : P.underlying t = some (.array len e)
class HasUnd (P : Program) (t : TypeId) : Prop where
  und : ∃ d, ∀ w, (underlying t).run P w = .ok d w
/-- A struct's places: offset and size of each field. -/
class StTy (P : Program) (t : TypeId) (fs : outParam (List (Nat × Nat × Bool))) : Prop where
  und : ∃ fields : Array Field, (∀ w, (underlying t).run P w = .ok (.struct fields) w) ∧ fields.size = fs.length ∧
    ∀ (i off sz : Nat) (ag : Bool), (show List (Nat × Nat × Bool) from fs)[i]? = some (off, sz, ag) → ∃ f : Field, fields[i]? = some f ∧ f.offset = off ∧ (∀ w, (sizeOf f.type).run P w = .ok sz w) ∧ (∀ w, (isAgg f.type).run P w = .ok ag w)
class Enters (P : Program) (f : FuncId) : Prop where
  run : ∀ args w, (callFunc f args).run P w = .ok (.enter f args) w

/-- A row of cells. -/
def cl (l : List Value) (t : TypeId) : Obj := .cells l.toArray t (0, 0)

/-! Finding a block in the list. -/
class FindB (b : Nat) (L : List HP) (o : outParam Obj) : Prop where
  at_ : ∀ w F, St w (L ++ F) → w.heap[b]? = some o
instance FindB.here {b : Nat} {o : Obj} {L : List HP} : FindB b (pt b o :: L) o := ⟨fun _ _ H => St.pt_read H⟩
instance FindB.hereR {b : Nat} {o : Obj} {L : List HP} : FindB b (ro b o :: L) o := ⟨fun _ _ H => St.ro_read H⟩
instance (priority := low) FindB.there {b : Nat} {o : Obj} {A : HP} {L : List HP} [h : FindB b L o] : FindB b (A :: L) o := ⟨fun _ _ H => h.at_ _ _ H.tail⟩
class UpdB (b : Nat) (L : List HP) (o : outParam Obj) (L' : outParam (Obj → List HP)) : Prop where
  at_ : ∃ R, L.Perm (pt b o :: R) ∧ ∀ x, (pt b x :: R).Perm (L' x)
instance UpdB.here {b : Nat} {o : Obj} {L : List HP} : UpdB b (pt b o :: L) o (fun x => pt b x :: L) := ⟨L, .refl _, fun _ => .refl _⟩
instance (priority := low) UpdB.there {b : Nat} {o : Obj} {A : HP} {L : List HP} {L' : Obj → List HP} [h : UpdB b L o L'] : UpdB b (A :: L) o (fun x => A :: L' x) := by
  obtain ⟨R, h1, h2⟩ := h.at_
  refine ⟨A :: R, ?_, fun x => ?_⟩
  · exact (h1.cons A).trans (.swap _ _ _)
  · exact List.Perm.trans (.swap _ _ _) ((h2 x).cons A)
/-- A list lies in another one's end. -/
class Sub (L0 L : List HP) : Prop where
  ent : Ent L L0
instance Sub.refl {L : List HP} : Sub L L := ⟨Ent.refl L⟩
instance (priority := low) Sub.there {L0 L : List HP} {A : HP} [h : Sub L0 L] : Sub L0 (A :: L) := ⟨h.ent.drop⟩

/-- Cells that can be read, from a place on. -/
def RdC (L : List HP) (b off : Nat) (cs : List Value) : Prop :=
  ∀ w F, St w (L ++ F) → ∀ j v, cs[j]? = some v → w.cell? ⟨b, off + j, none⟩ = some v
theorem RdC.sub {L0 L : List HP} {b off : Nat} {cs : List Value} (h : RdC L0 b off cs) [s : Sub L0 L] : RdC L b off cs :=
  fun w F H => h w F (s.ent _ _ H)
theorem RdC.ent {L0 L : List HP} {b off : Nat} {cs : List Value} (h : RdC L0 b off cs) (s : Ent L L0) : RdC L b off cs :=
  fun w F H => h w F (s _ _ H)
theorem RdC.find {L : List HP} {b : Nat} {l : List Value} {t : TypeId} {fz : Nat × Nat} [h : FindB b L (.cells l.toArray t fz)] {off : Nat} {cs : List Value} (hl : ∀ j v, cs[j]? = some v → l[off + j]? = some v) : RdC L b off cs :=
  fun w F H j v e => by
    have := h.at_ w F H
    simp [World.cell?, this, hl j v e]
theorem RdC.row {L : List HP} {b : Nat} {l : List Value} {t : TypeId} [h : FindB b L (cl l t)] : RdC L b 0 l :=
  RdC.find (h := h) fun j v e => by simpa using e
theorem RdC.part {L : List HP} {b off k : Nat} {cs ds : List Value} (h : RdC L b off cs) (hd : ∀ j v, ds[j]? = some v → cs[k + j]? = some v) : RdC L b (off + k) ds :=
  fun w F H j v e => by have := h w F H (k + j) v (hd j v e); rwa [← Nat.add_assoc] at this

/-! The general steps. -/
section
variable {P : Program} {n : Nat} {ops rest : List Oper} {Q : Post} {f : Env} {L : List HP}

def StepV (P : Program) (n : Nat) (o : Oper) (f : Env) (L : List HP) (R : Value → List HP → Prop) : Prop :=
  ∀ F a w, Sim n a f → St w (L ++ F) → ∃ v w' L', (execOp a.eval o).run P w = .ok (.value v) w' ∧ St w' (L' ++ F) ∧ R v L'

theorem opsS_value {d : Option Tmp} {op : Op} {ty : TypeId} {pos : String} {af : Array Edge} {R : Value → List HP → Prop}
    (h : StepV P n ⟨d, op, ty, pos, af, none⟩ f L R) (hk : ∀ v L', R v L' → opsS P n ops rest Q (updo f d v) L') :
    opsS P n ops (⟨d, op, ty, pos, af, none⟩ :: rest) Q f L := by
  intro ok F a w s t
  simp only [okOps, List.all_cons, Bool.and_eq_true] at ok
  obtain ⟨v, w', L', hr, t', r⟩ := h F a w s t
  refine wpList_plain rfl fun K hK => ?_
  simp only [Oper.wp, hr, Oper.upon]
  exact hK _ _ (hk v L' r ok.2 F _ _ (s.put ok.1 v) t')
theorem opsS_pure1 {d : Option Tmp} {op : Op} {ty : TypeId} {pos : String} {af : Array Edge} {v : Value}
    (h : ∀ a w, Sim n a f → (execOp a.eval ⟨d, op, ty, pos, af, none⟩).run P w = .ok (.value v) w) (hk : opsS P n ops rest Q (updo f d v) L) :
    opsS P n ops (⟨d, op, ty, pos, af, none⟩ :: rest) Q f L :=
  opsS_value (R := fun u L' => u = v ∧ L' = L) (fun F a w s t => ⟨v, w, L, h a w s, t, rfl, rfl⟩) (by rintro _ _ ⟨rfl, rfl⟩; exact hk)
theorem opsS_skip1 {d : Option Tmp} {op : Op} {ty : TypeId} {pos : String} {af : Array Edge} {L' : List HP}
    (h : ∀ F a w, Sim n a f → St w (L ++ F) → ∃ w', (execOp a.eval ⟨d, op, ty, pos, af, none⟩).run P w = .ok .skip w' ∧ St w' (L' ++ F)) (hk : opsS P n ops rest Q (updo f d undef) L') :
    opsS P n ops (⟨d, op, ty, pos, af, none⟩ :: rest) Q f L := by
  intro ok F a w s t
  simp only [okOps, List.all_cons, Bool.and_eq_true] at ok
  obtain ⟨w', hr, t'⟩ := h F a w s t
  refine wpList_plain rfl fun K hK => ?_
  simp only [Oper.wp, hr, Oper.upon]
  exact hK _ _ (hk ok.2 F _ _ (s.put ok.1 undef) t')

/-- What an operation's guard says. -/
def wantS (ops : List Oper) (f : Env) (g : Nat × Bool) : Option Bool :=
  match (ops[g.1]?).bind (·.dst) with
  | some d => match f d with
    | some (.bool b) => some (b == g.2)
    | _ => none
  | none => none
theorem wanted_of {a : Act} {g : Nat × Bool} {b : Bool} (s : Sim n a f) (h : wantS ops f g = some b) (o : Oper) (ho : o.guard = some g) :
    Region.wanted o (yielded ops.toArray a.tmps) = b := by
  simp only [wantS] at h
  cases hd : (ops[g.1]?).bind (·.dst) with
  | none => rw [hd] at h; simp at h
  | some d =>
    rw [hd] at h
    simp only at h
    cases hf : f d with
    | none => rw [hf] at h; simp at h
    | some v =>
      rw [hf] at h
      cases v <;> simp at h
      rename_i c
      have := s.at_ d _ hf
      have hh : a.tmps[d]? = some (.bool c) := by
        rw [Array.getD_eq_getD_getElem?] at this
        cases h2 : a.tmps[d]? with
        | none => rw [h2] at this; simp [undef] at this
        | some u => rw [h2] at this; simp at this; rw [this]
      have hy : yielded ops.toArray a.tmps g.1 = some c := by
        simp [yielded, hd, hh]
      simp only [Region.wanted, ho]
      rw [hy, ← h]
      cases c <;> cases g.2 <;> rfl
theorem S.guard {d : Option Tmp} {op : Op} {ty : TypeId} {pos : String} {af : Array Edge} {g : Nat × Bool} (hg : wantS ops f g = some true)
    (h : opsS P n ops (⟨d, op, ty, pos, af, none⟩ :: rest) Q f L) : opsS P n ops (⟨d, op, ty, pos, af, some g⟩ :: rest) Q f L := by
  intro ok F a w s t
  have hw := wanted_of s hg ⟨d, op, ty, pos, af, some g⟩ rfl
  have := h (by simpa [okOps] using ok) F a w s t
  have h2 : Region.wanted (⟨d, op, ty, pos, af, none⟩ : Oper) (yielded ops.toArray a.tmps) = true := rfl
  simp only [wpList, hw, h2, if_true] at this ⊢
  exact this
theorem S.gskip {d : Option Tmp} {op : Op} {ty : TypeId} {pos : String} {af : Array Edge} {g : Nat × Bool} (hg : wantS ops f g = some false)
    (h : opsS P n ops rest Q (updo f d undef) L) : opsS P n ops (⟨d, op, ty, pos, af, some g⟩ :: rest) Q f L := by
  intro ok F a w s t
  have hw := wanted_of s hg ⟨d, op, ty, pos, af, some g⟩ rfl
  simp only [okOps, List.all_cons, Bool.and_eq_true] at ok
  have := h ok.2 F _ w (s.put ok.1 undef) t
  simp only [wpList, hw, Bool.false_eq_true, if_false]
  exact this
theorem S.guardP {d : Option Tmp} {op : Op} {ty : TypeId} {pos : String} {af : Array Edge} {g : Nat × Bool} {b : Bool} (hg : wantS ops f g = some b) (hb : b = true)
    (h : opsS P n ops (⟨d, op, ty, pos, af, none⟩ :: rest) Q f L) : opsS P n ops (⟨d, op, ty, pos, af, some g⟩ :: rest) Q f L := S.guard (hb ▸ hg) h
theorem S.gskipP {d : Option Tmp} {op : Op} {ty : TypeId} {pos : String} {af : Array Edge} {g : Nat × Bool} {b : Bool} (hg : wantS ops f g = some b) (hb : b = false)
    (h : opsS P n ops rest Q (updo f d undef) L) : opsS P n ops (⟨d, op, ty, pos, af, some g⟩ :: rest) Q f L := S.gskip (hb ▸ hg) h
theorem S.gskip1 {d : Tmp} {op : Op} {ty : TypeId} {pos : String} {af : Array Edge} {g : Nat × Bool} (hg : wantS ops f g = some false)
    (h : opsS P n ops rest Q (upd f d undef) L) : opsS P n ops (⟨some d, op, ty, pos, af, some g⟩ :: rest) Q f L := S.gskip hg h
/-- A slot's bool is decided. -/
theorem S.split (d : Nat) {b : Bool} (hd : f d = some (.bool b)) (ht : b = true → opsS P n ops rest Q (upd f d (.bool true)) L) (hf : b = false → opsS P n ops rest Q (upd f d (.bool false)) L) :
    opsS P n ops rest Q f L := by
  have key : ∀ c, b = c → opsS P n ops rest Q (upd f d (.bool c)) L → opsS P n ops rest Q f L := fun c e h ok F a w s t =>
    h ok F a w (s.weaken fun i v hv => by
      simp only [upd] at hv
      cases hb : Nat.beq i d with
      | false => rw [hb] at hv; exact hv
      | true => rw [hb] at hv; rw [Nat.eq_of_beq_eq_true hb, hd, e]; exact hv) t
  cases b
  · exact key false rfl (hf rfl)
  · exact key true rfl (ht rfl)
/-- A guard's bool is decided. -/
theorem S.gsp {d : Option Tmp} {op : Op} {ty : TypeId} {pos : String} {af : Array Edge} {g : Nat × Bool} {dg : Nat} {b : Bool} (h0 : (ops[g.1]?).bind (·.dst) = some dg) (hd : f dg = some (.bool b))
    (ht : b = true → opsS P n ops (⟨d, op, ty, pos, af, some g⟩ :: rest) Q (upd f dg (.bool true)) L) (hf : b = false → opsS P n ops (⟨d, op, ty, pos, af, some g⟩ :: rest) Q (upd f dg (.bool false)) L) :
    opsS P n ops (⟨d, op, ty, pos, af, some g⟩ :: rest) Q f L := S.split dg hd ht hf
theorem S.gT {d : Option Tmp} {op : Op} {ty : TypeId} {pos : String} {af : Array Edge} {g : Nat × Bool} {dg : Nat} {b : Bool} (h0 : (ops[g.1]?).bind (·.dst) = some dg) (hd : f dg = some (.bool b)) (hb : b = true)
    (ht : opsS P n ops (⟨d, op, ty, pos, af, some g⟩ :: rest) Q (upd f dg (.bool true)) L) : opsS P n ops (⟨d, op, ty, pos, af, some g⟩ :: rest) Q f L := S.gsp h0 hd (fun _ => ht) (fun h => by rw [hb] at h; cases h)
theorem S.gF {d : Option Tmp} {op : Op} {ty : TypeId} {pos : String} {af : Array Edge} {g : Nat × Bool} {dg : Nat} {b : Bool} (h0 : (ops[g.1]?).bind (·.dst) = some dg) (hd : f dg = some (.bool b)) (hb : b = false)
    (hf : opsS P n ops (⟨d, op, ty, pos, af, some g⟩ :: rest) Q (upd f dg (.bool false)) L) : opsS P n ops (⟨d, op, ty, pos, af, some g⟩ :: rest) Q f L := S.gsp h0 hd (fun h => by rw [hb] at h; cases h) (fun _ => hf)
end
end Go.SX
