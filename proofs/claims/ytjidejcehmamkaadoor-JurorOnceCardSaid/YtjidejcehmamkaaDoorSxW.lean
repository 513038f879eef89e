/- Cuts behind blocks. No condition. -/
import Derived.Test.YtjidejcehmamkaaDoorSxT
set_option linter.unusedVariables false
set_option linter.unusedSimpArgs false
namespace Go.SX
open Go
theorem swp_cutB {P : Program} {n : Nat} {x y : Code} {Q : Post} {f : Env} {L : List HP} {σ : Type} {i : Nat} (sl : σ → List (Nat × Value)) (H : σ → List HP) (φ : σ → Prop)
    (h : swp P n x (blockS i (thenS (fun f L => ∃ s, slots f (sl s) ∧ Ent L (H s) ∧ φ s) Q)) f L)
    (hk : ∀ s, φ s → swp P n y Q (updAll (sl s)) (H s)) : swp P n x (blockS i (thenS (fun f L => swp P n y Q f L) Q)) f L := by
  refine swp_mono h ?_
  have key : ∀ e f L, thenS (fun f L => ∃ s, slots f (sl s) ∧ Ent L (H s) ∧ φ s) Q e f L → thenS (fun f L => swp P n y Q f L) Q e f L := by
    intro e f L q
    cases e <;> first | exact q | (obtain ⟨s, h1, h2, h3⟩ := q; exact swp_keep _ h1 (swp_ent h2 (hk s h3)))
  intro e f L q
  cases e with
  | exit j =>
    unfold blockS at q ⊢
    simp only at q ⊢
    cases hb : Nat.beq j i with
    | true => rw [hb] at q; simp only [cond_true] at q ⊢; exact key _ _ _ q
    | false => rw [hb] at q; simp only [cond_false] at q ⊢; exact key _ _ _ q
  | _ => unfold blockS at q ⊢; exact key _ _ _ q
theorem UpdS.cap {a : Option Addr} {L : List HP} {t sz m c : Nat} {cs : List Value} {L' : HP → List HP} (h : UpdS a L t sz m c cs L') {w : World} {F : List HP} (H : St w (L ++ F)) : m ≤ c := by
  obtain ⟨R, p, _⟩ := h.at_
  have := St.slO_open (L := R ++ F) (by simpa using St.perm (p.append_right F) H)
  rcases this.2 with ⟨_, h, h', _⟩ | ⟨b, _, h, h', _⟩
  · omega
  · exact h'
theorem swp_cap (a : Option Addr) {P : Program} {n : Nat} {cd : Code} {Q : Post} {f : Env} {L : List HP} {t sz m c : Nat} {cs : List Value} {L' : HP → List HP} [h : UpdS a L t sz m c cs L'] (H : m ≤ c → swp P n cd Q f L) : swp P n cd Q f L :=
  fun ok F ac w s t => H (h.cap t) ok F ac w s t
theorem opsS_cap (a : Option Addr) {P : Program} {n : Nat} {ops rest : List Oper} {Q : Post} {f : Env} {L : List HP} {t sz m c : Nat} {cs : List Value} {L' : HP → List HP} [h : UpdS a L t sz m c cs L'] (H : m ≤ c → opsS P n ops rest Q f L) : opsS P n ops rest Q f L :=
  fun ok F ac w s t => H (h.cap t) ok F ac w s t
section
variable {P : Program} {n : Nat} {ops : List Oper} {f : Env} {A : List HP} {d : Tmp} {ty : TypeId} {pos : String} {af : Array Edge}
theorem Y.iac {x y : Operand} {t e : TypeId} {b o m c sz bts k : Nat} {ag : Bool} {zs : List Value} {kk : IntKind} [h : SlTy P t e] [h2 : Ty P e ag sz zs bts] (hx : ev f x = some (.slice (some ⟨b, o, none⟩) m c)) (hy : ev f y = some (.int kk (Int.ofNat k))) (h1 : k < m) :
    YieldS P n ops ⟨some d, .indexAddr t x y, ty, pos, af, none⟩ f A (.pointer (some ⟨b, o + k * sz, none⟩)) := Y.ia hx hy rfl h1
theorem Y.iaac {x y : Operand} {t e : TypeId} {b o len sz bts k : Nat} {ag : Bool} {zs : List Value} {kk : IntKind} [h : ArrTy P t len e] [h2 : Ty P e ag sz zs bts] (hx : ev f x = some (.pointer (some ⟨b, o, none⟩))) (hy : ev f y = some (.int kk (Int.ofNat k))) (h1 : Nat.blt k len = true) :
    YieldS P n ops ⟨some d, .indexAddr t x y, ty, pos, af, none⟩ f A (.pointer (some ⟨b, o + k * sz, none⟩)) := Y.iaa hx hy rfl (by simpa using h1)
end
section
variable {P : Program} {n : Nat} {ops : List Oper} {f : Env} {A : List HP} {d : Tmp} {ty : TypeId} {pos : String} {af : Array Edge}
theorem Y.bda {t e : TypeId} {len : Nat} {parts : Array (Nat × Operand)} {sz bts sz' bts' : Nat} {ag ag' : Bool} {zs zs' cs : List Value} {l : List (Nat × Value)} [h1 : ArrTy P t len e] [h3 : Ty P e ag' sz' zs' bts'] [h2 : Ty P t ag sz zs bts]
    (hp : partsL f parts.toList = some l) (hm : zs.length = len * sz') (hf : fitsL (rowL sz' len) (len * sz') (cellsOf l) = true) (hc : fillL (rowL sz' len) zs (cellsOf l) = cs) : YieldS P n ops ⟨some d, .build t parts, ty, pos, af, none⟩ f A (.agg cs.toArray) := by
  obtain ⟨z, hz, hz2⟩ := h2.zero
  refine Y.of (v := .agg cs.toArray) (fun a w s => ?_)
  have e1 : (parts.map fun p => (p.1, a.eval p.2)).toList = l := by simpa using partsL_eq s hp
  have e3 : z.cells = zs.toArray := by rw [← hz2]
  have e4 := fill_eq (places := rowL sz' len) (pl := fun i => some (i * sz', sz')) (fun i off sz'' ag e => by
    simp only [rowL, List.getElem?_map] at e
    by_cases hi : i < len
    · rw [List.getElem?_range hi] at e
      simp only [Option.map_some, Option.some.injEq, Prod.mk.injEq] at e
      rw [← e.1, ← e.2.1]
    · rw [List.getElem?_eq_none (by simpa using hi)] at e; simp at e) l zs (by rw [hm]; exact fitsL_of hf)
  unfold cellsOf at hc
  rw [hc] at e4
  obtain ⟨pl⟩ := parts
  simp only [List.map_toArray] at e1
  simp only [execOp, Instr.build, Sem.run_bind, hz, h1.und, Result.andThen_ok, h3.size, e3, List.map_toArray, e1, e4]
  rfl
end
end Go.SX
