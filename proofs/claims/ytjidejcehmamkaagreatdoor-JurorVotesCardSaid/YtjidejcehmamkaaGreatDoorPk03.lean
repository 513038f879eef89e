/- Rounds of a range over a function; slices.AppendSeq. No condition. -/
import Derived.RangeFuncLeaves
import Derived.RangeFuncSeq
import Derived.Test.YtjidejcehmamkaaGreatDoorPk02
set_option linter.unusedVariables false
set_option linter.unusedSimpArgs false
set_option linter.unusedSectionVars false
namespace Go.SX
open Go
theorem St.ent {w : World} {L L' : List HP} (h : Ent L L') (H : St w L) : St w L' := by simpa using h w [] (by simpa using H)
theorem St.rot2 {w : World} {A B C D : HP} {F : List HP} (H : St w (A :: B :: C :: D :: F)) : St w ([C, D] ++ (A :: B :: F)) := St.perm (by simpa using (List.perm_append_comm (l₁ := [A, B]) (l₂ := [C, D])).append_right F) H
theorem CallsS.mk' {P : Program} {g : FuncId} {args : List Value} {L : List HP} {R : Value → List HP → Prop} (h : ∀ F w, St w (L ++ F) → Calls P g args.toArray w fun e w' => ∃ v L', e = .returned v ∧ St w' (L' ++ F) ∧ R v L') : CallsS P g args L R := h
theorem CallsS.run {P : Program} {g : FuncId} {args : List Value} {L : List HP} {R : Value → List HP → Prop} (h : CallsS P g args L R) {F : List HP} {w : World} (t : St w (L ++ F)) : Calls P g args.toArray w fun e w' => ∃ v L', e = .returned v ∧ St w' (L' ++ F) ∧ R v L' := h F w t
theorem beq_ne {i j : Nat} (h : ¬ i = j) : Nat.beq i j = false := by cases hb : Nat.beq i j with | false => rfl | true => exact absurd (Nat.eq_of_beq_eq_true hb) h
def WF (r : Option Nat) : Fence := { Fence.wide with round := r }
theorem callsWF {r : Option Nat} {m : Nat} {P : Program} {f : FuncId} {args : Array Value} {w : World} {R : Ending → World → Prop} (h : Calls P f args w R) : CallsIn (WF r) m P f args w R := callsIn_wide.2 h
theorem rowsWF {r : Option Nat} {m : Nat} {P : Program} {row : String} {args : Array Value} {w : World} {R : Value → World → Prop} (h : Rows P row args w R) : RowsIn (WF r) m P row args w R := fun c cs _ =>
  let ⟨v, w', hr, hs⟩ := h c cs; ⟨v, w', hr, stepsIn_wide.2 hs⟩
section
variable {P : Program} {n : Nat} {r : Option Nat} {ops rest : List Oper} {Q : Post} {f : Env} {L : List HP}
def opsI (P : Program) (n : Nat) (r : Option Nat) (ops rest : List Oper) (Q : Post) (f : Env) (L : List HP) : Prop :=
  okOps n rest = true → ∀ F a w, Sim n a f → St w (L ++ F) → wpListIn (WF r) 0 P ops.toArray (lift n F Q) rest a w
theorem opsI_nil (h : Q .normal f L) : opsI P n r ops [] Q f L := fun _ F a w s t => wpListIn_nil ⟨f, L, s, t, h⟩
theorem opsI_ent {L' : List HP} (h : Ent L L') (H : opsI P n r ops rest Q f L') : opsI P n r ops rest Q f L := fun ok F a w s t => H ok F a w s (h w F t)
theorem opsI_one {o : Oper} (hd : ∀ c, o.op ≠ .defer c) (hg : o.guard = none) (h : opsS P n ops [o] (thenS (fun f L => opsI P n r ops rest Q f L) (fun _ _ _ => False)) f L) : opsI P n r ops (o :: rest) Q f L := by
  intro ok F a w s t
  simp only [okOps, List.all_cons, Bool.and_eq_true] at ok
  have h2 := h (by simp [okOps, ok.1]) F a w s t
  simp only [wpList, Region.wanted, hg, if_true] at h2
  refine wpListIn_plain hg fun K hK => ⟨fun _ _ => trivial, ?_⟩
  rw [Oper.semAt_eq _ _ _ hd]
  rcases h2 with h2 | ⟨_, a', w', f', L', _, _, q⟩
  · unfold Oper.wp at h2
    have key : ∀ a w, lift n F (thenS (fun f L => opsI P n r ops rest Q f L) (fun _ _ _ => False)) .normal a w → K a w := by
      rintro a w ⟨f, L, s, t, q⟩
      exact hK _ _ (q ok.2 F a w s t)
    generalize (execOp a.eval o).run P w = res at *
    cases res with
    | ok m w' =>
      cases m <;> simp only [Oper.upon, Oper.uponIn] at h2 ⊢ <;> first
        | exact key _ _ h2
        | exact h2.elim
        | exact h2
        | (refine ⟨fun h => by simp [WF, Fence.wide] at h, (callsWF (Calls.mono h2 fun e w'' he => ?_))⟩
           cases e with
           | returned u => exact key _ _ he
           | panicked c => obtain ⟨_, _, _, _, q⟩ := he; exact q.elim
           | outgrown => obtain ⟨_, _, _, _, _, _, q⟩ := he; exact q.elim)
        | exact ⟨fun h => by simp [WF, Fence.wide] at h, rowsWF (Rows.mono h2 fun _ _ he => key _ _ he)⟩
    | halt x w' => cases x <;> simp only [Oper.upon, Oper.uponIn] at h2 ⊢ <;> first | exact h2.elim | (obtain ⟨_, _, _, _, q⟩ := h2; exact q.elim)
  · exact q.elim
theorem swp_regionI {id : Nat} {l : List Oper} (h : opsI P n none l l Q f L) : swp P n (.region id l.toArray false) Q f L := fun ok F a w s t =>
  (wpIn_wide (n := 0)).1 (wpIn_region_lit (h (by simpa [okCode] using ok) F a w s t))
def RoundS (P : Program) (l : Nat) (x : Value) (L L' : List HP) : Prop := ∀ F w, St w (L ++ F) → YieldAt Fence.wide 0 P l #[x] w fun e w' => e = .returned (.bool true) ∧ St w' (L' ++ F)
theorem RoundS.frame {l : Nat} {x : Value} {L L' R : List HP} (h : RoundS P l x L L') : RoundS P l x (L ++ R) (L' ++ R) := fun F w t => by
  rw [List.append_assoc] at t ⊢
  exact h (R ++ F) w t
theorem opsI_yield {d : Tmp} {ty : TypeId} {pos : String} {af : Array Edge} {y x : Operand} {ats : Array TypeId} {l : Nat} {v : Value} {L' : List HP} (hy : ev f y = some (.func (.yield l) #[] #[])) (hx : ev f x = some v) (hr : RoundS P l v L L')
    (hk : opsI P n none ops rest Q (upd f d (.bool true)) L') : opsI P n none ops (⟨some d, .call ⟨.value y, #[x], ats⟩, ty, pos, af, none⟩ :: rest) Q f L := by
  intro ok F a w s t
  simp only [okOps, List.all_cons, Bool.and_eq_true] at ok
  obtain ⟨fn, tmps, assign, body, hrun, hround⟩ := hr F w t
  refine wpListIn_plain rfl fun K hK => ⟨fun _ _ => trivial, ?_⟩
  have e : (Oper.semAt (WF none).round a.eval (⟨some d, .call ⟨.value y, #[x], ats⟩, ty, pos, af, none⟩ : Oper)).run P w = .ok (.round l fn tmps assign body) w := by
    rw [Oper.semAt_eq _ _ _ (fun c h => by cases h)]
    simp [execOp, resolve, Deferred.ofValue, invoke, s.eval hy, s.eval hx, hrun]
  rw [e]
  refine ⟨fun h => by simp [WF, Fence.wide] at h, RoundIn.mono hround ?_⟩
  rintro e w' ⟨rfl, t'⟩
  exact hK _ _ (hk ok.2 F _ _ (s.put (d := some d) ok.1 _) t')
end
theorem wpIn_of_swp {P : Program} {n m : Nat} {f : Env} {L F : List HP} {x y : Code} {K : Env → List HP → Prop} {Q : Exit → Act → World → Prop} {a : Act} {w : World} (h : swp P n x (thenS K (fun _ _ _ => False)) f L) (ok : okCode n x = true) (s : Sim n a f) (t : St w (L ++ F))
    (hk : ∀ f L a w, K f L → Sim n a f → St w (L ++ F) → y.wpIn Fence.wide m P Q a w) : (Code.seq x y).wpIn Fence.wide m P Q a w := by
  refine wpIn_seq (wpIn_mono (wpIn_wide.2 (h ok F a w s t)) ?_)
  rintro e a w ⟨f, L, s, t, q⟩
  cases e <;> first | exact hk _ _ _ _ q s t | exact q.elim
theorem wpIn_round {P : Program} {n : Nat} {r : Option Nat} {f : Env} {L F : List HP} {id : Nat} {l : List Oper} {K : Env → List HP → Prop} {Q : Exit → Act → World → Prop} {a : Act} {w : World} (h : opsI P n r l l (thenS K (fun _ _ _ => False)) f L) (ok : okOps n l = true) (s : Sim n a f) (t : St w (L ++ F))
    (hk : ∀ f L a w, K f L → Sim n a f → St w (L ++ F) → Q .normal a w) : (Code.region id l.toArray false).wpIn (WF r) 0 P Q a w := by
  refine wpIn_mono (wpIn_region_lit (h ok F a w s t)) ?_
  rintro e a w ⟨f, L, s, t, q⟩
  cases e <;> first | exact hk _ _ _ _ q s t | exact q.elim
theorem wpIn_rangeF {P : Program} {g : Operand} {ps : Array Tmp} {assign body : Code} {Q : Exit → Act → World → Prop} {a : Act} {w : World} {gf : FuncId} {lb : List Value} [hen : Enters P gf] (hg : a.eval g = .func (.func gf) #[] lb.toArray)
    (h : ∀ fn, Calls P gf (.func (.yield (w.heap.size + 1)) #[] #[] :: lb).toArray ((w.alloc (.deferred (some []))).alloc (.loop { state := .ready, pending := none, fn, tmps := a.tmps, params := ps, assign, body, defers := w.heap.size }))
      fun e w3 => ∃ v w4, e = .returned v ∧ (Instr.endLoop (w.heap.size + 1)).run P w3 = .ok none w4 ∧ Q .normal { a with defers := [{ target := .collected w.heap.size, args := #[] }] ++ a.defers } w4) :
    (Code.rangeFunc g ps assign body).wpIn Fence.wide 1 P Q a w := by
  refine wpIn_rangeFunc fun fn _ => ?_
  have h0 := h fn
  have he := run_enterLoop_outer (P := P) (w := w) fn a.tmps ps assign body
  generalize ((w.alloc (.deferred (some []))).alloc (.loop { state := .ready, pending := none, fn, tmps := a.tmps, params := ps, assign, body, defers := w.heap.size })) = W1 at *
  refine ⟨w.heap.size + 1, [{ target := .collected w.heap.size, args := #[] }], W1, { target := .fn (.func gf) lb.toArray, args := #[.func (.yield (w.heap.size + 1)) #[] #[]] }, W1, gf, (.func (.yield (w.heap.size + 1)) #[] #[] :: lb).toArray, W1, ?_, ?_, ?_, ?_, ?_, ?_⟩
  · exact he
  · simp only [resolve, hg, rangeCall, Deferred.ofValue, Sem.run_bind, Sem.run_pure, Result.andThen_ok, List.map_toArray, List.map_cons, List.map_nil, Array.empty_append]; simp [Act.eval]
  · exact fun _ _ => trivial
  · have : (#[Value.func (.yield (w.heap.size + 1)) #[] #[]] ++ lb.toArray) = (.func (.yield (w.heap.size + 1)) #[] #[] :: lb).toArray := by simp
    simp only [invoke, this, hen.run]
  · intro h; simp [Fence.wide] at h
  · refine callsIn_wide.2 (h0.mono ?_)
    rintro e w3 ⟨v, w4, rfl, h1, h2⟩
    exact ⟨none, w4, h1, h2⟩
def SeqS {κ : Type} (P : Program) (g : FuncId) (lb : List Value) (enc : κ → Value) (N : Nat) (S : List κ → Prop) (A A' : List HP) : Prop :=
  ∀ (l : Nat) (J : List κ → HP), (∀ pre x, pre.length < N → RoundS P l (enc x) [J pre] [J (pre ++ [x])]) → CallsS P g (.func (.yield l) #[] #[] :: lb) (J [] :: A) (fun _ L' => ∃ ks, S ks ∧ L' = J ks :: A')
theorem SeqS.mono {κ : Type} {P : Program} {g : FuncId} {lb : List Value} {enc : κ → Value} {N N' : Nat} {Sp : List κ → Prop} {A A' : List HP} (h : SeqS P g lb enc N Sp A A') (hN : N ≤ N') : SeqS P g lb enc N' Sp A A' := fun l J hJ => h l J fun pre x hp => hJ pre x (by omega)
end Go.SX
