/- The document's notes: Name, has, num, vec, Right. The ref's juror: as it lies; Find. The document's notes and mail: are they alike? Calls whose contracts want two or three of the list's assertions in front. No condition. -/
import Derived.Test.YtjidejcehmamkaaGreatDoorPk08
set_option linter.unusedVariables false
set_option linter.unusedSimpArgs false
set_option linter.unusedSectionVars false
namespace Go.SX
open Go
theorem Y.slen0 {P : Program} {n : Nat} {ops : List Oper} {f : Env} {A : List HP} {d : Tmp} {ty : TypeId} {pos : String} {af : Array Edge} {x : Operand} {t : TypeId} {s0 : ByteArray} [h : StrTy P t] (hx : ev f x = some (.string s0)) :
    YieldS P n ops ⟨some d, .call ⟨.builtin .len, #[x], #[t]⟩, ty, pos, af, none⟩ f A (.int .i64 s0.size) :=
  Y.of fun a w s => by simp [execOp, resolve, invoke, s.eval hx, builtin, Builtin.len_, h.und, goInt]
theorem Y.slen {P : Program} {n : Nat} {ops : List Oper} {f : Env} {A : List HP} {d : Tmp} {ty : TypeId} {pos : String} {af : Array Edge} {x : Operand} {t : TypeId} {l : List UInt8} [h : StrTy P t] (hx : ev f x = some (str l)) :
    YieldS P n ops ⟨some d, .call ⟨.builtin .len, #[x], #[t]⟩, ty, pos, af, none⟩ f A (.int .i64 l.length) := Y.slen0 hx
theorem bget {l : List UInt8} {i : Nat} {b : UInt8} (h : l[i]? = some b) : (⟨l.toArray⟩ : ByteArray)[i]? = some b := by
  have hl : i < l.length := (List.getElem?_eq_some_iff.1 h).1
  have hb : l[i] = b := (List.getElem?_eq_some_iff.1 h).2
  have hs : i < (⟨l.toArray⟩ : ByteArray).size := by simpa [ByteArray.size] using hl
  rw [getElem?_pos _ i hs]
  exact congrArg some hb
end Go.SX
namespace Go.Proofs.YtjidejcehmamkaaGreatDoor
open Go Go.SX
attribute [local irreducible] swp opsS thenS blockS retS CallsS St Ent YieldS anyS drawS
set_option maxHeartbeats 2000000 in
theorem Name_spec (k : Nat) (A : List HP) (hk : k ≤ 255) : CallsS Tryz.prog 48 [.int .u8 (k : Int)] A (fun r L' => r = .tuple #[str (sortT k).1, str (lett k)] ∧ L' = A) := by
  refine CallsS.of_body Tryz.func48 rfl rfl rfl ?_
  by_cases h0 : k = 0
  · subst h0
    refine Q.r ?_; (repeat (intro b1; refine Q.r ?_))
    exact N.r2 (RV.tmp rfl (RV.tmp rfl RV.nil)) (Ent.refl _) ⟨rfl, rfl⟩
  by_cases h1 : k = 1
  · subst h1
    refine Q.r ?_; (repeat (intro b1; refine Q.r ?_))
    exact N.r2 (RV.tmp rfl (RV.tmp rfl RV.nil)) (Ent.refl _) ⟨rfl, rfl⟩
  by_cases h2 : k = 2
  · subst h2
    refine Q.r ?_; (repeat (intro b1; refine Q.r ?_))
    exact N.r2 (RV.tmp rfl (RV.tmp rfl RV.nil)) (Ent.refl _) ⟨rfl, rfl⟩
  by_cases h3 : k = 3
  · subst h3
    refine Q.r ?_; (repeat (intro b1; refine Q.r ?_))
    exact N.r2 (RV.tmp rfl (RV.tmp rfl RV.nil)) (Ent.refl _) ⟨rfl, rfl⟩
  by_cases h4 : k = 4
  · subst h4
    refine Q.r ?_; (repeat (intro b1; refine Q.r ?_))
    exact N.r2 (RV.tmp rfl (RV.tmp rfl RV.nil)) (Ent.refl _) ⟨rfl, rfl⟩
  by_cases h5 : k = 5
  · subst h5
    refine Q.r ?_; (repeat (intro b1; refine Q.r ?_))
    exact N.r2 (RV.tmp rfl (RV.tmp rfl RV.nil)) (Ent.refl _) ⟨rfl, rfl⟩
  by_cases h6 : k = 6
  · subst h6
    refine Q.r ?_; (repeat (intro b1; refine Q.r ?_))
    exact N.r2 (RV.tmp rfl (RV.tmp rfl RV.nil)) (Ent.refl _) ⟨rfl, rfl⟩
  by_cases h7 : k = 7
  · subst h7
    refine Q.r ?_; (repeat (intro b1; refine Q.r ?_))
    exact N.r2 (RV.tmp rfl (RV.tmp rfl RV.nil)) (Ent.refl _) ⟨rfl, rfl⟩
  by_cases h8 : k = 8
  · subst h8
    refine Q.r ?_; (repeat (intro b1; refine Q.r ?_))
    exact N.r2 (RV.tmp rfl (RV.tmp rfl RV.nil)) (Ent.refl _) ⟨rfl, rfl⟩
  by_cases h9 : k = 9
  · subst h9
    refine Q.r ?_; (repeat (intro b1; refine Q.r ?_))
    exact N.r2 (RV.tmp rfl (RV.tmp rfl RV.nil)) (Ent.refl _) ⟨rfl, rfl⟩
  by_cases h10 : k = 10
  · subst h10
    refine Q.r ?_; (repeat (intro b1; refine Q.r ?_))
    exact N.r2 (RV.tmp rfl (RV.tmp rfl RV.nil)) (Ent.refl _) ⟨rfl, rfl⟩
  by_cases h11 : k = 11
  · subst h11
    refine Q.r ?_; (repeat (intro b1; refine Q.r ?_))
    exact N.r2 (RV.tmp rfl (RV.tmp rfl RV.nil)) (Ent.refl _) ⟨rfl, rfl⟩
  by_cases h12 : k = 12
  · subst h12
    refine Q.r ?_; (repeat (intro b1; refine Q.r ?_))
    exact N.r2 (RV.tmp rfl (RV.tmp rfl RV.nil)) (Ent.refl _) ⟨rfl, rfl⟩
  by_cases h13 : k = 13
  · subst h13
    refine Q.r ?_; (repeat (intro b1; refine Q.r ?_))
    exact N.r2 (RV.tmp rfl (RV.tmp rfl RV.nil)) (Ent.refl _) ⟨rfl, rfl⟩
  by_cases h14 : k = 14
  · subst h14
    refine Q.r ?_; (repeat (intro b1; refine Q.r ?_))
    exact N.r2 (RV.tmp rfl (RV.tmp rfl RV.nil)) (Ent.refl _) ⟨rfl, rfl⟩
  by_cases h15 : k = 15
  · subst h15
    refine Q.r ?_; (repeat (intro b1; refine Q.r ?_))
    exact N.r2 (RV.tmp rfl (RV.tmp rfl RV.nil)) (Ent.refl _) ⟨rfl, rfl⟩
  by_cases h16 : k = 16
  · subst h16
    refine Q.r ?_; (repeat (intro b1; refine Q.r ?_))
    exact N.r2 (RV.tmp rfl (RV.tmp rfl RV.nil)) (Ent.refl _) ⟨rfl, rfl⟩
  by_cases h17 : k = 17
  · subst h17
    refine Q.r ?_; (repeat (intro b1; refine Q.r ?_))
    exact N.r2 (RV.tmp rfl (RV.tmp rfl RV.nil)) (Ent.refl _) ⟨rfl, rfl⟩
  by_cases h18 : k = 18
  · subst h18
    refine Q.r ?_; (repeat (intro b1; refine Q.r ?_))
    exact N.r2 (RV.tmp rfl (RV.tmp rfl RV.nil)) (Ent.refl _) ⟨rfl, rfl⟩
  by_cases h19 : k = 19
  · subst h19
    refine Q.r ?_; (repeat (intro b1; refine Q.r ?_))
    exact N.r2 (RV.tmp rfl (RV.tmp rfl RV.nil)) (Ent.refl _) ⟨rfl, rfl⟩
  by_cases h20 : k = 20
  · subst h20
    refine Q.r ?_; (repeat (intro b1; refine Q.r ?_))
    exact N.r2 (RV.tmp rfl (RV.tmp rfl RV.nil)) (Ent.refl _) ⟨rfl, rfl⟩
  by_cases h21 : k = 21
  · subst h21
    refine Q.r ?_; (repeat (intro b1; refine Q.r ?_))
    exact N.r2 (RV.tmp rfl (RV.tmp rfl RV.nil)) (Ent.refl _) ⟨rfl, rfl⟩
  by_cases h22 : k = 22
  · subst h22
    refine Q.r ?_; (repeat (intro b1; refine Q.r ?_))
    exact N.r2 (RV.tmp rfl (RV.tmp rfl RV.nil)) (Ent.refl _) ⟨rfl, rfl⟩
  have e1 : sortT k = ([], 0) := by
    unfold sortT
    rw [List.getElem?_eq_none (by show 23 ≤ k; omega)]; rfl
  have e2 : lett k = [] := by
    unfold lett
    rw [List.getElem?_eq_none (by show 23 ≤ k; omega)]; rfl
  rw [e1, e2]
  refine Q.r ?_; (repeat (intro b1; refine Q.r ?_))
  exact N.r2 (RV.tmp rfl (RV.tmp rfl RV.nil)) (Ent.refl _) ⟨rfl, rfl⟩
theorem lett_le (k : Nat) : (lett k).length ≤ 15 := by
  by_cases h : k < 23
  · exact (by decide : ∀ k, k < 23 → (lett k).length ≤ 15) k h
  · unfold lett
    rw [List.getElem?_eq_none (by show 23 ≤ k; omega)]; decide
theorem u8_eq (x f : UInt8) : decide (((x.toNat : Nat) : Int) = ((f.toNat : Nat) : Int)) = decide (x = f) := by
  congr 1
  rw [Int.natCast_inj, UInt8.toNat_inj]
theorem has_spec (k : Nat) (f : UInt8) (kd z : Int) (hkd : kd = (k : Int)) (hz : z = ((f.toNat : Nat) : Int)) (A : List HP) (hk : k ≤ 255) : CallsS Tryz.prog 120 [.int .u8 kd, .int .u8 z] A (fun r L' => r = .bool (hasL k f) ∧ L' = A) := by
  subst hkd
  unfold hasL
  have hle := lett_le k
  refine CallsS.of_body Tryz.func120 rfl rfl rfl ?_
  refine Q.r ?_; (repeat (intro b1; refine Q.r ?_))
  refine S.cr rfl (Name_spec k _ hk) ?_
  rintro _ _ ⟨rfl, he⟩
  rw [he]
  clear he
  refine Q.r ?_; (repeat (intro b1; refine Q.r ?_))
  refine swp_loop (σ := Nat) (fun i => [(1, .int .u8 z), (6, str (lett k)), (7, .int .i64 i)]) (fun _ => A) (fun i => i ≤ (lett k).length ∧ ((lett k).take i).any (fun x => decide (x = f)) = false) (fun i => (lett k).length - i) 0 ⟨rfl, rfl, rfl, trivial⟩ (Ent.refl _) ⟨by omega, by simp⟩ ?_
  rintro i ⟨hi, hany⟩
  by_cases hlt : i < (lett k).length
  · obtain ⟨x, hx⟩ := mem_get hlt
    refine Q.r ?_; (repeat (intro b1; refine Q.r ?_))
    refine S.y (Y.slen rfl) ?_
    refine Q.r ?_; (repeat (intro b1; refine Q.r ?_))
    refine S.y (Y.idx rfl rfl (bget hx)) ?_
    by_cases he : x = f
    · have hz2 : ((x.toNat : Nat) : Int) = z := by rw [he, hz]
      refine Q.r ?_; (repeat (intro b1; refine Q.r ?_))
      exact N.r1 (RV.tmp rfl RV.nil) (Ent.refl _) ⟨by rw [List.any_eq_true.2 ⟨x, List.mem_of_getElem? hx, decide_eq_true he⟩], rfl⟩
    · have hz2 : ¬ ((x.toNat : Nat) : Int) = z := by
        rw [hz]
        intro hh
        have := u8_eq x f
        rw [decide_eq_true hh] at this
        exact he (of_decide_eq_true this.symm)
      refine Q.r ?_; (repeat (intro b1; refine Q.r ?_))
      exact ⟨i + 1, ⟨rfl, rfl, rfl, trivial⟩, Ent.refl _, ⟨by omega, by rw [take_snoc hx, List.any_append, hany, List.any_cons, decide_eq_false he]; rfl⟩, by omega⟩
  · have hie : i = (lett k).length := by omega
    subst hie
    rw [List.take_length] at hany
    rw [hany]
    refine Q.r ?_; (repeat (intro b1; refine Q.r ?_))
    refine S.y (Y.slen rfl) ?_
    refine Q.r ?_; (repeat (intro b1; refine Q.r ?_))
    exact N.r1 (RV.tmp rfl RV.nil) (Ent.refl _) ⟨rfl, rfl⟩
theorem num_spec (k : Nat) (f : UInt8) (kd z n m : Int) (hkd : kd = (k : Int)) (hz : z = ((f.toNat : Nat) : Int)) (A : List HP) (hk : k ≤ 255) : CallsS Tryz.prog 49 [.int .u8 kd, .int .u8 z, .int .u64 n, .int .u64 m] A (fun r L' => r = .bool (numV k f n m) ∧ L' = A) := by
  unfold numV
  refine CallsS.of_body Tryz.func49 rfl rfl rfl ?_
  by_cases h1 : n ≤ m
  · rw [decide_eq_true h1, Bool.true_and]
    by_cases h2 : n = 0
    · rw [decide_eq_true h2, Bool.true_or]
      refine Q.r ?_; (repeat (intro b1; refine Q.r ?_))
      exact N.r1 (RV.tmp rfl RV.nil) (Ent.refl _) ⟨rfl, rfl⟩
    · rw [decide_eq_false h2, Bool.false_or]
      refine Q.r ?_; (repeat (intro b1; refine Q.r ?_))
      refine S.cr rfl (has_spec k f kd z hkd hz _ hk) ?_
      rintro _ _ ⟨rfl, rfl⟩
      refine Q.r ?_; (repeat (intro b1; refine Q.r ?_))
      exact N.r1 (RV.tmp rfl RV.nil) (Ent.refl _) ⟨rfl, rfl⟩
  · rw [decide_eq_false h1, Bool.false_and]
    refine Q.r ?_; (repeat (intro b1; refine Q.r ?_))
    exact N.r1 (RV.tmp rfl RV.nil) (Ent.refl _) ⟨rfl, rfl⟩
theorem Rvec_spec (a : Option Addr) (c : Nat) (xs : List Int) (A : List HP) (h : RdS A a xs.length 1 (xs.map I32)) (hn : xs.length ≤ 1000000) :
    CallsS Tryz.prog 50 [.slice a xs.length c] A (fun v L' => v = .bool (bareV xs) ∧ L' = A) := by
  unfold bareV
  refine CallsS.of_body Tryz.func50 rfl rfl rfl ?_
  by_cases h0 : xs.length = 0
  · rw [decide_eq_true h0, Bool.true_or]
    refine Q.r ?_; (repeat (intro b1; refine Q.r ?_))
    exact N.r1 (RV.tmp rfl RV.nil) (Ent.refl _) ⟨rfl, rfl⟩
  · rw [decide_eq_false h0, Bool.false_or]
    refine Q.r ?_; (repeat (intro b1; refine Q.r ?_))
    refine S.cr rfl (RRight_spec a c xs _ h (by omega)) ?_
    rintro _ _ ⟨rfl, rfl⟩
    refine Q.r ?_; (repeat (intro b1; refine Q.r ?_))
    exact N.r1 (RV.tmp rfl RV.nil) (Ent.refl _) ⟨rfl, rfl⟩
set_option maxHeartbeats 4000000 in
theorem Right12_spec (n : NV) (A : List HP) (h : RdN A n) (hk : OkN n) (u : NumA n.abs) :
    CallsS Tryz.prog 17 [n.val] A (fun r L' => r = .bool (rightN n.abs) ∧ L' = A) := by
  obtain ⟨k, hkk⟩ : ∃ k : Nat, n.kind = (k : Int) := ⟨n.kind.toNat, by have := u.kind; dsimp only at this; omega⟩
  have hk255 : k ≤ 255 := by have := u.kind; dsimp only at this; omega
  have hE : rightN n.abs = (!decide ((sortT k).1 = []) && !(decide (n.k < 0) || decide (n.ef < 0) || decide (n.code < 0) || decide (n.who < 0)) && (okNA k n.abs && (okNB k n.abs && (partsV n.parts && (!(n.ops.any fun o => badOp o.abs) && !(n.hits.any fun o => badHit o.abs)))))) := by
    rw [right_ref u]
    have e1 : n.abs.kind.toNat = k := by show n.kind.toNat = k; omega
    rw [e1, sort_name, Bool.not_not]
    have e2 : decide (1 ≤ n.abs.kind ∧ n.abs.kind ≤ 22) = decide (1 ≤ k ∧ k ≤ 22) := by
      congr 1
      show (1 ≤ n.kind ∧ n.kind ≤ 22) = _
      rw [hkk]; simp; omega
    rw [e2]
    simp only [List.any_map]
    rfl
  have hu : NumA n.abs := u
  rw [hE]
  clear hE
  have x1 := u.k
  have x2 := u.ef
  have x3 := u.code
  have x4 := u.who
  dsimp only at x1 x2 x3 x4
  have p1 := hk.p
  have p2 := hk.o
  have p3 := hk.v
  have p4 := hk.h
  refine CallsS.of_body Tryz.func17 rfl rfl rfl ?_
  refine Q.r ?_; (repeat (intro b1; refine Q.r ?_))
  refine S.cr (args := [.int .u8 (k : Int)]) (by rw [← hkk]; rfl) (Name_spec k _ hk255) ?_
  rintro _ _ ⟨rfl, rfl⟩
  by_cases hn : (sortT k).1 = []
  · rw [decide_eq_true hn]
    refine Q.r ?_; (repeat (intro b1; refine Q.r ?_))
    exact N.r1 (RV.tmp rfl RV.nil) (Ent.drop (Ent.refl _)) ⟨by simp only [Bool.or_true, Bool.true_or, Bool.or_false, Bool.false_or, Bool.not_true, Bool.not_false, Bool.false_and, Bool.and_false, Bool.true_and, Bool.and_true], rfl⟩
  rw [decide_eq_false hn]
  by_cases a1 : n.k < 0
  · rw [decide_eq_true a1]
    refine Q.r ?_; (repeat (intro b1; refine Q.r ?_))
    exact N.r1 (RV.tmp rfl RV.nil) (Ent.drop (Ent.refl _)) ⟨by simp only [Bool.or_true, Bool.true_or, Bool.or_false, Bool.false_or, Bool.not_true, Bool.not_false, Bool.false_and, Bool.and_false, Bool.true_and, Bool.and_true], rfl⟩
  by_cases a2 : n.ef < 0
  · rw [decide_eq_true a2]
    refine Q.r ?_; (repeat (intro b1; refine Q.r ?_))
    exact N.r1 (RV.tmp rfl RV.nil) (Ent.drop (Ent.refl _)) ⟨by simp only [Bool.or_true, Bool.true_or, Bool.or_false, Bool.false_or, Bool.not_true, Bool.not_false, Bool.false_and, Bool.and_false, Bool.true_and, Bool.and_true], rfl⟩
  by_cases a3 : n.code < 0
  · rw [decide_eq_true a3]
    refine Q.r ?_; (repeat (intro b1; refine Q.r ?_))
    exact N.r1 (RV.tmp rfl RV.nil) (Ent.drop (Ent.refl _)) ⟨by simp only [Bool.or_true, Bool.true_or, Bool.or_false, Bool.false_or, Bool.not_true, Bool.not_false, Bool.false_and, Bool.and_false, Bool.true_and, Bool.and_true], rfl⟩
  by_cases a4 : n.who < 0
  · rw [decide_eq_true a4]
    refine Q.r ?_; (repeat (intro b1; refine Q.r ?_))
    exact N.r1 (RV.tmp rfl RV.nil) (Ent.drop (Ent.refl _)) ⟨by simp only [Bool.or_true, Bool.true_or, Bool.or_false, Bool.false_or, Bool.not_true, Bool.not_false, Bool.false_and, Bool.and_false, Bool.true_and, Bool.and_true], rfl⟩
  rw [decide_eq_false a1, decide_eq_false a2, decide_eq_false a3, decide_eq_false a4]
  simp only [Bool.or_true, Bool.true_or, Bool.or_false, Bool.false_or, Bool.not_true, Bool.not_false, Bool.false_and, Bool.and_false, Bool.true_and, Bool.and_true]
  refine Q.r ?_; (repeat (intro b1; refine Q.r ?_))
  refine opsS_cutT (σ := Bool) (fun s => [(1, .pointer (some ⟨b1, 0, none⟩)), (3, .int .u8 n.kind), (6, .bool s)]) (fun s => pt b1 (cl n.cells 36) :: A) (fun s => s = okNA k n.abs) ?_ ?_
  · skip
    refine Q.r ?_; (repeat (intro b1; refine Q.r ?_))
    refine S.cr rfl (num_spec k 116 n.kind 116 n.txn 18446744073709551615 hkk rfl _ hk255) ?_
    rintro _ _ ⟨rfl, rfl⟩
    cases hv0 : numV k 116 n.txn 18446744073709551615 with
    | false =>
      refine Q.r ?_; (repeat (intro b1; refine Q.r ?_))
      exact ⟨false, ⟨rfl, rfl, rfl, trivial⟩, Ent.refl _, by unfold okNA; simp only [hv0, List.length_map, Bool.or_true, Bool.true_or, Bool.or_false, Bool.false_or, Bool.not_true, Bool.not_false, Bool.false_and, Bool.and_false, Bool.true_and, Bool.and_true]⟩
    | true =>
    refine Q.r ?_; (repeat (intro b1; refine Q.r ?_))
    refine S.cr rfl (num_spec k 98 n.kind 98 n.batch 18446744073709551615 hkk rfl _ hk255) ?_
    rintro _ _ ⟨rfl, rfl⟩
    cases hv1 : numV k 98 n.batch 18446744073709551615 with
    | false =>
      refine Q.r ?_; (repeat (intro b1; refine Q.r ?_))
      exact ⟨false, ⟨rfl, rfl, rfl, trivial⟩, Ent.refl _, by unfold okNA; simp only [hv0, hv1, List.length_map, Bool.or_true, Bool.true_or, Bool.or_false, Bool.false_or, Bool.not_true, Bool.not_false, Bool.false_and, Bool.and_false, Bool.true_and, Bool.and_true]⟩
    | true =>
    refine Q.r ?_; (repeat (intro b1; refine Q.r ?_))
    refine S.cr rfl (num_spec k 115 n.kind 115 n.stamp 1099511627776 hkk rfl _ hk255) ?_
    rintro _ _ ⟨rfl, rfl⟩
    cases hv2 : numV k 115 n.stamp 1099511627776 with
    | false =>
      refine Q.r ?_; (repeat (intro b1; refine Q.r ?_))
      exact ⟨false, ⟨rfl, rfl, rfl, trivial⟩, Ent.refl _, by unfold okNA; simp only [hv0, hv1, hv2, List.length_map, Bool.or_true, Bool.true_or, Bool.or_false, Bool.false_or, Bool.not_true, Bool.not_false, Bool.false_and, Bool.and_false, Bool.true_and, Bool.and_true]⟩
    | true =>
    refine Q.r ?_; (repeat (intro b1; refine Q.r ?_))
    refine S.cr rfl (num_spec k 97 n.kind 97 n.after 1099511627776 hkk rfl _ hk255) ?_
    rintro _ _ ⟨rfl, rfl⟩
    cases hv3 : numV k 97 n.after 1099511627776 with
    | false =>
      refine Q.r ?_; (repeat (intro b1; refine Q.r ?_))
      exact ⟨false, ⟨rfl, rfl, rfl, trivial⟩, Ent.refl _, by unfold okNA; simp only [hv0, hv1, hv2, hv3, List.length_map, Bool.or_true, Bool.true_or, Bool.or_false, Bool.false_or, Bool.not_true, Bool.not_false, Bool.false_and, Bool.and_false, Bool.true_and, Bool.and_true]⟩
    | true =>
    refine Q.r ?_; (repeat (intro b1; refine Q.r ?_))
    refine S.cr rfl (num_spec k 109 n.kind 109 n.mark 1099511627776 hkk rfl _ hk255) ?_
    rintro _ _ ⟨rfl, rfl⟩
    cases hv4 : numV k 109 n.mark 1099511627776 with
    | false =>
      refine Q.r ?_; (repeat (intro b1; refine Q.r ?_))
      exact ⟨false, ⟨rfl, rfl, rfl, trivial⟩, Ent.refl _, by unfold okNA; simp only [hv0, hv1, hv2, hv3, hv4, List.length_map, Bool.or_true, Bool.true_or, Bool.or_false, Bool.false_or, Bool.not_true, Bool.not_false, Bool.false_and, Bool.and_false, Bool.true_and, Bool.and_true]⟩
    | true =>
    refine Q.r ?_; (repeat (intro b1; refine Q.r ?_))
    refine S.cr rfl (num_spec k 113 n.kind 113 n.query 18446744073709551615 hkk rfl _ hk255) ?_
    rintro _ _ ⟨rfl, rfl⟩
    cases hv5 : numV k 113 n.query 18446744073709551615 with
    | false =>
      refine Q.r ?_; (repeat (intro b1; refine Q.r ?_))
      exact ⟨false, ⟨rfl, rfl, rfl, trivial⟩, Ent.refl _, by unfold okNA; simp only [hv0, hv1, hv2, hv3, hv4, hv5, List.length_map, Bool.or_true, Bool.true_or, Bool.or_false, Bool.false_or, Bool.not_true, Bool.not_false, Bool.false_and, Bool.and_false, Bool.true_and, Bool.and_true]⟩
    | true =>
    refine Q.r ?_; (repeat (intro b1; refine Q.r ?_))
    refine S.cr rfl (num_spec k 105 n.kind 105 n.id 1099511627776 hkk rfl _ hk255) ?_
    rintro _ _ ⟨rfl, rfl⟩
    cases hv6 : numV k 105 n.id 1099511627776 with
    | false =>
      refine Q.r ?_; (repeat (intro b1; refine Q.r ?_))
      exact ⟨false, ⟨rfl, rfl, rfl, trivial⟩, Ent.refl _, by unfold okNA; simp only [hv0, hv1, hv2, hv3, hv4, hv5, hv6, List.length_map, Bool.or_true, Bool.true_or, Bool.or_false, Bool.false_or, Bool.not_true, Bool.not_false, Bool.false_and, Bool.and_false, Bool.true_and, Bool.and_true]⟩
    | true =>
    refine Q.r ?_; (repeat (intro b1; refine Q.r ?_))
    refine S.y (Y.cvi rfl) ?_
    rw [wrap_u64 (by omega) (by omega)]
    refine Q.r ?_; (repeat (intro b1; refine Q.r ?_))
    refine S.cr rfl (num_spec k 107 n.kind 107 n.k 16 hkk rfl _ hk255) ?_
    rintro _ _ ⟨rfl, rfl⟩
    cases hv7 : numV k 107 n.k 16 with
    | false =>
      refine Q.r ?_; (repeat (intro b1; refine Q.r ?_))
      exact ⟨false, ⟨rfl, rfl, rfl, trivial⟩, Ent.refl _, by unfold okNA; simp only [hv0, hv1, hv2, hv3, hv4, hv5, hv6, hv7, List.length_map, Bool.or_true, Bool.true_or, Bool.or_false, Bool.false_or, Bool.not_true, Bool.not_false, Bool.false_and, Bool.and_false, Bool.true_and, Bool.and_true]⟩
    | true =>
    refine Q.r ?_; (repeat (intro b1; refine Q.r ?_))
    refine S.y (Y.cvi rfl) ?_
    rw [wrap_u64 (by omega) (by omega)]
    refine Q.r ?_; (repeat (intro b1; refine Q.r ?_))
    refine S.cr rfl (num_spec k 101 n.kind 101 n.ef 256 hkk rfl _ hk255) ?_
    rintro _ _ ⟨rfl, rfl⟩
    cases hv8 : numV k 101 n.ef 256 with
    | false =>
      refine Q.r ?_; (repeat (intro b1; refine Q.r ?_))
      exact ⟨false, ⟨rfl, rfl, rfl, trivial⟩, Ent.refl _, by unfold okNA; simp only [hv0, hv1, hv2, hv3, hv4, hv5, hv6, hv7, hv8, List.length_map, Bool.or_true, Bool.true_or, Bool.or_false, Bool.false_or, Bool.not_true, Bool.not_false, Bool.false_and, Bool.and_false, Bool.true_and, Bool.and_true]⟩
    | true =>
    refine Q.r ?_; (repeat (intro b1; refine Q.r ?_))
    refine S.y (Y.cvi rfl) ?_
    rw [wrap_u64 (by omega) (by omega)]
    refine Q.r ?_; (repeat (intro b1; refine Q.r ?_))
    refine S.cr rfl (num_spec k 99 n.kind 99 n.code 13 hkk rfl _ hk255) ?_
    rintro _ _ ⟨rfl, rfl⟩
    cases hv9 : numV k 99 n.code 13 with
    | false =>
      refine Q.r ?_; (repeat (intro b1; refine Q.r ?_))
      exact ⟨false, ⟨rfl, rfl, rfl, trivial⟩, Ent.refl _, by unfold okNA; simp only [hv0, hv1, hv2, hv3, hv4, hv5, hv6, hv7, hv8, hv9, List.length_map, Bool.or_true, Bool.true_or, Bool.or_false, Bool.false_or, Bool.not_true, Bool.not_false, Bool.false_and, Bool.and_false, Bool.true_and, Bool.and_true]⟩
    | true =>
    refine Q.r ?_; (repeat (intro b1; refine Q.r ?_))
    refine S.y (Y.cvi rfl) ?_
    rw [wrap_u64 (by omega) (by omega)]
    refine Q.r ?_; (repeat (intro b1; refine Q.r ?_))
    refine S.cr rfl (num_spec k 119 n.kind 119 n.who 15 hkk rfl _ hk255) ?_
    rintro _ _ ⟨rfl, rfl⟩
    cases hv10 : numV k 119 n.who 15 with
    | false =>
      refine Q.r ?_; (repeat (intro b1; refine Q.r ?_))
      exact ⟨false, ⟨rfl, rfl, rfl, trivial⟩, Ent.refl _, by unfold okNA; simp only [hv0, hv1, hv2, hv3, hv4, hv5, hv6, hv7, hv8, hv9, hv10, List.length_map, Bool.or_true, Bool.true_or, Bool.or_false, Bool.false_or, Bool.not_true, Bool.not_false, Bool.false_and, Bool.and_false, Bool.true_and, Bool.and_true]⟩
    | true =>
    refine Q.r ?_; (repeat (intro b1; refine Q.r ?_))
    exact ⟨true, ⟨rfl, rfl, rfl, trivial⟩, Ent.refl _, by unfold okNA; simp only [hv0, hv1, hv2, hv3, hv4, hv5, hv6, hv7, hv8, hv9, hv10, Bool.or_true, Bool.true_or, Bool.or_false, Bool.false_or, Bool.not_true, Bool.not_false, Bool.false_and, Bool.and_false, Bool.true_and, Bool.and_true]⟩
  intro b0 hb0
  rw [← hb0, ← Bool.and_assoc]
  clear hb0
  refine swp_seq ?_
  refine swp_region ?_
  refine opsS_cutT (σ := Bool) (fun s => [(1, .pointer (some ⟨b1, 0, none⟩)), (6, .bool s)]) (fun s => pt b1 (cl n.cells 36) :: A) (fun s => s = (b0 && okNB k n.abs)) ?_ ?_
  · cases b0 with
    | false =>
      refine Q.r ?_; (repeat (intro b1; refine Q.r ?_))
      exact ⟨false, ⟨rfl, rfl, trivial⟩, Ent.refl _, rfl⟩
    | true =>
    rw [Bool.true_and]
    refine Q.r ?_; (repeat (intro b1; refine Q.r ?_))
    refine S.y (Y.cvi rfl) ?_
    rw [wrap_u64 (by omega) (by omega)]
    refine Q.r ?_; (repeat (intro b1; refine Q.r ?_))
    refine S.cr rfl (num_spec k 112 n.kind 112 (n.parts.length : Nat) 4 hkk rfl _ hk255) ?_
    rintro _ _ ⟨rfl, rfl⟩
    cases hv0 : numV k 112 (n.parts.length : Nat) 4 with
    | false =>
      refine Q.r ?_; (repeat (intro b1; refine Q.r ?_))
      exact ⟨false, ⟨rfl, rfl, trivial⟩, Ent.refl _, by unfold okNB; simp only [hv0, List.length_map, Bool.or_true, Bool.true_or, Bool.or_false, Bool.false_or, Bool.not_true, Bool.not_false, Bool.false_and, Bool.and_false, Bool.true_and, Bool.and_true]⟩
    | true =>
    refine Q.r ?_; (repeat (intro b1; refine Q.r ?_))
    refine S.y (Y.cvi rfl) ?_
    rw [wrap_u64 (by omega) (by omega)]
    refine Q.r ?_; (repeat (intro b1; refine Q.r ?_))
    refine S.cr rfl (num_spec k 111 n.kind 111 (n.ops.length : Nat) 16 hkk rfl _ hk255) ?_
    rintro _ _ ⟨rfl, rfl⟩
    cases hv1 : numV k 111 (n.ops.length : Nat) 16 with
    | false =>
      refine Q.r ?_; (repeat (intro b1; refine Q.r ?_))
      exact ⟨false, ⟨rfl, rfl, trivial⟩, Ent.refl _, by unfold okNB; simp only [hv0, hv1, List.length_map, Bool.or_true, Bool.true_or, Bool.or_false, Bool.false_or, Bool.not_true, Bool.not_false, Bool.false_and, Bool.and_false, Bool.true_and, Bool.and_true]⟩
    | true =>
    refine Q.r ?_; (repeat (intro b1; refine Q.r ?_))
    refine S.y (Y.cvi rfl) ?_
    rw [wrap_u64 (by omega) (by omega)]
    refine Q.r ?_; (repeat (intro b1; refine Q.r ?_))
    refine S.cr rfl (num_spec k 118 n.kind 118 (n.vec.length : Nat) 8 hkk rfl _ hk255) ?_
    rintro _ _ ⟨rfl, rfl⟩
    cases hv2 : numV k 118 (n.vec.length : Nat) 8 with
    | false =>
      refine Q.r ?_; (repeat (intro b1; refine Q.r ?_))
      exact ⟨false, ⟨rfl, rfl, trivial⟩, Ent.refl _, by unfold okNB; simp only [hv0, hv1, hv2, List.length_map, Bool.or_true, Bool.true_or, Bool.or_false, Bool.false_or, Bool.not_true, Bool.not_false, Bool.false_and, Bool.and_false, Bool.true_and, Bool.and_true]⟩
    | true =>
    refine Q.r ?_; (repeat (intro b1; refine Q.r ?_))
    refine S.y (Y.cvi rfl) ?_
    rw [wrap_u64 (by omega) (by omega)]
    refine Q.r ?_; (repeat (intro b1; refine Q.r ?_))
    refine S.cr rfl (num_spec k 104 n.kind 104 (n.hits.length : Nat) 16 hkk rfl _ hk255) ?_
    rintro _ _ ⟨rfl, rfl⟩
    cases hv3 : numV k 104 (n.hits.length : Nat) 16 with
    | false =>
      refine Q.r ?_; (repeat (intro b1; refine Q.r ?_))
      exact ⟨false, ⟨rfl, rfl, trivial⟩, Ent.refl _, by unfold okNB; simp only [hv0, hv1, hv2, hv3, List.length_map, Bool.or_true, Bool.true_or, Bool.or_false, Bool.false_or, Bool.not_true, Bool.not_false, Bool.false_and, Bool.and_false, Bool.true_and, Bool.and_true]⟩
    | true =>
    refine Q.r ?_; (repeat (intro b1; refine Q.r ?_))
    refine S.cr rfl (Rvec_spec n.va n.vc n.vec _ h.v.sub hk.v) ?_
    rintro _ _ ⟨rfl, rfl⟩
    cases hv5 : bareV n.vec with
    | false =>
      refine Q.r ?_; (repeat (intro b1; refine Q.r ?_))
      exact ⟨false, ⟨rfl, rfl, trivial⟩, Ent.refl _, by unfold okNB; simp only [hv0, hv1, hv2, hv3, hv5, List.length_map, Bool.or_true, Bool.true_or, Bool.or_false, Bool.false_or, Bool.not_true, Bool.not_false, Bool.false_and, Bool.and_false, Bool.true_and, Bool.and_true]⟩
    | true =>
      refine Q.r ?_; (repeat (intro b1; refine Q.r ?_))
      exact ⟨true, ⟨rfl, rfl, trivial⟩, Ent.refl _, by unfold okNB; simp only [hv0, hv1, hv2, hv3, hv5, List.length_map, Bool.or_true, Bool.true_or, Bool.or_false, Bool.false_or, Bool.not_true, Bool.not_false, Bool.false_and, Bool.and_false, Bool.true_and, Bool.and_true]⟩
  intro b hb
  rw [← hb, ← Bool.and_assoc]
  clear hb b0
  refine Q.r ?_; (repeat (intro b1; refine Q.r ?_))
  refine swp_cutB (σ := Bool) (fun s => [(1, .pointer (some ⟨b1, 0, none⟩)), (6, .bool s)]) (fun s => pt b1 (cl n.cells 36) :: A) (fun s => s = (b && partsV n.parts)) ?_ ?_
  · refine swp_loop (σ := Nat × Bool) (fun s => [(1, .pointer (some ⟨b1, 0, none⟩)), (149, .slice n.pa n.parts.length n.pc), (150, .int .i64 n.parts.length), (6, .bool s.2), (151, .int .i64 s.1)])
      (fun _ => pt b1 (cl n.cells 36) :: A) (fun s => s.1 ≤ n.parts.length ∧ s.2 = (b && (List.range s.1).all (okP n.parts))) (fun s => n.parts.length - s.1) (0, b) ⟨rfl, rfl, rfl, rfl, rfl, trivial⟩ (Ent.refl _) ⟨by omega, by simp⟩ ?_
    rintro ⟨i, t⟩ ⟨hi, ht⟩
    dsimp only at hi ht ⊢
    by_cases hlt : i < n.parts.length
    · have hst : (b && (List.range (i + 1)).all (okP n.parts)) = (t && okP n.parts i) := by
        rw [List.range_succ, List.all_append, ← Bool.and_assoc, ← ht, List.all_cons, List.all_nil, Bool.and_true]
      clear ht
      obtain ⟨p, hp⟩ := mem_get hlt
      obtain ⟨bp, op, hpa, hr⟩ := RdS.elem (g := fun z => [I64 z]) (fun _ => rfl) (by rw [flat_I64]; exact h.p) hp rfl
      have hgp : n.parts.getD i 0 = p := by rw [List.getD_eq_getElem?_getD, hp]; rfl
      cases t with
      | false =>
        rw [hpa]
        repeat (first | refine S.y (Y.ldRj rfl (by first | assumption | exact RdC.sub (by assumption)) rfl) ?_ | (refine GQ.y ?_; refine Q.y ?_) | refine Q.go ?_ | (refine GQ.g ?_; refine Q.gq ?_) | (refine GQ.s ?_; refine Q.st ?_) | (refine GQ.g ?_; refine Q.gd ?_) | refine Q.ct rfl ?_ | refine Q.cf rfl ?_ | (refine GQ.a ?_; refine Q.al (fun b1 => ?_)))
        exact ⟨(i + 1, false), ⟨rfl, by first | rfl | (rw [← hpa]; rfl), rfl, rfl, rfl, trivial⟩, Ent.refl _, ⟨by dsimp only; omega, by rw [hst]; rfl⟩, by dsimp only; omega⟩
      | true =>
      rw [Bool.true_and] at hst
      by_cases e1 : p < 0
      · rw [hpa]
        repeat (first | refine S.y (Y.ldRj rfl (by first | assumption | exact RdC.sub (by assumption)) rfl) ?_ | (refine GQ.y ?_; refine Q.y ?_) | refine Q.go ?_ | (refine GQ.g ?_; refine Q.gq ?_) | (refine GQ.s ?_; refine Q.st ?_) | (refine GQ.g ?_; refine Q.gd ?_) | refine Q.ct rfl ?_ | refine Q.cf rfl ?_ | (refine GQ.a ?_; refine Q.al (fun b1 => ?_)))
        exact ⟨(i + 1, false), ⟨rfl, by first | rfl | (rw [← hpa]; rfl), rfl, rfl, rfl, trivial⟩, Ent.refl _, ⟨by dsimp only; omega, by rw [hst]; unfold okP; rw [hgp, decide_eq_false (by omega : ¬ 0 ≤ p)]; rfl⟩, by dsimp only; omega⟩
      by_cases e2 : 16 ≤ p
      · rw [hpa]
        repeat (first | refine S.y (Y.ldRj rfl (by first | assumption | exact RdC.sub (by assumption)) rfl) ?_ | (refine GQ.y ?_; refine Q.y ?_) | refine Q.go ?_ | (refine GQ.g ?_; refine Q.gq ?_) | (refine GQ.s ?_; refine Q.st ?_) | (refine GQ.g ?_; refine Q.gd ?_) | refine Q.ct rfl ?_ | refine Q.cf rfl ?_ | (refine GQ.a ?_; refine Q.al (fun b1 => ?_)))
        exact ⟨(i + 1, false), ⟨rfl, by first | rfl | (rw [← hpa]; rfl), rfl, rfl, rfl, trivial⟩, Ent.refl _, ⟨by dsimp only; omega, by rw [hst]; unfold okP; rw [hgp, decide_eq_false (by omega : ¬ p < 16), Bool.and_false]; rfl⟩, by dsimp only; omega⟩
      by_cases e3 : i = 0
      · subst e3
        rw [hpa]
        repeat (first | refine S.y (Y.ldRj rfl (by first | assumption | exact RdC.sub (by assumption)) rfl) ?_ | (refine GQ.y ?_; refine Q.y ?_) | refine Q.go ?_ | (refine GQ.g ?_; refine Q.gq ?_) | (refine GQ.s ?_; refine Q.st ?_) | (refine GQ.g ?_; refine Q.gd ?_) | refine Q.ct rfl ?_ | refine Q.cf rfl ?_ | (refine GQ.a ?_; refine Q.al (fun b1 => ?_)))
        exact ⟨(1, true), ⟨rfl, by first | rfl | (rw [← hpa]; rfl), rfl, rfl, rfl, trivial⟩, Ent.refl _, ⟨by dsimp only; omega, by rw [hst]; unfold okP; rw [hgp, decide_eq_true (by omega : (0 : Int) ≤ p), decide_eq_true (by omega : p < 16)]; rfl⟩, by dsimp only; omega⟩
      · obtain ⟨q, hq⟩ := mem_get (l := n.parts) (show i - 1 < n.parts.length by omega)
        obtain ⟨bq, oq, hqa, hr2⟩ := RdS.elem (g := fun z => [I64 z]) (fun _ => rfl) (by rw [flat_I64]; exact h.p) hq rfl
        have hgq : n.parts.getD (i - 1) 0 = q := by rw [List.getD_eq_getElem?_getD, hq]; rfl
        have hv : okP n.parts i = decide (q < p) := by
          unfold okP
          rw [hgp, hgq, decide_eq_true (by omega : (0 : Int) ≤ p), decide_eq_true (by omega : p < 16), decide_eq_false e3]; simp only [Bool.or_true, Bool.true_or, Bool.or_false, Bool.false_or, Bool.not_true, Bool.not_false, Bool.false_and, Bool.and_false, Bool.true_and, Bool.and_true]
        rw [hv] at hst
        rw [hpa]
        repeat (first | refine S.y (Y.ldRj rfl (by first | assumption | exact RdC.sub (by assumption)) rfl) ?_ | refine Q.yn ?_ | refine S.stI rfl rfl (by first | omega | (rw [Array.size_setIfInBounds]; omega)) ?_ | (refine GQ.y ?_; refine Q.y ?_) | refine Q.go ?_ | (refine GQ.g ?_; refine Q.gq ?_) | (refine GQ.s ?_; refine Q.st ?_) | (refine GQ.g ?_; refine Q.gd ?_) | refine Q.ct rfl ?_ | refine Q.cf rfl ?_ | (refine GQ.a ?_; refine Q.al (fun b1 => ?_)))
        rw [← hpa, hqa]
        repeat (first | refine S.y (Y.ldRj rfl (by first | assumption | exact RdC.sub (by assumption)) rfl) ?_ | refine Q.yn ?_ | refine S.stI rfl rfl (by first | omega | (rw [Array.size_setIfInBounds]; omega)) ?_ | (refine GQ.y ?_; refine Q.y ?_) | refine Q.go ?_ | (refine GQ.g ?_; refine Q.gq ?_) | (refine GQ.s ?_; refine Q.st ?_) | (refine GQ.g ?_; refine Q.gd ?_) | refine Q.ct rfl ?_ | refine Q.cf rfl ?_ | (refine GQ.a ?_; refine Q.al (fun b1 => ?_)))
        exact ⟨(i + 1, decide (q < p)), ⟨rfl, by first | rfl | (rw [← hqa]; rfl) | (rw [hqa]; rfl), rfl, rfl, rfl, trivial⟩, Ent.refl _, ⟨by dsimp only; omega, by rw [hst]⟩, by dsimp only; omega⟩
    · have hie : i = n.parts.length := by omega
      subst hie
      refine Q.r ?_; (repeat (intro b1; refine Q.r ?_))
      exact ⟨t, ⟨rfl, rfl, trivial⟩, Ent.refl _, ht⟩
  intro b2 hb2
  rw [← hb2, ← Bool.and_assoc]
  clear hb2 b
  refine Q.r ?_; (repeat (intro b1; refine Q.r ?_))
  refine swp_cutB (σ := Bool) (fun s => [(1, .pointer (some ⟨b1, 0, none⟩)), (6, .bool s)]) (fun s => pt b1 (cl n.cells 36) :: A) (fun s => s = (b2 && !(n.ops.any fun o => badOp o.abs))) ?_ ?_
  · refine swp_loop (σ := Nat × Bool) (fun s => [(1, .pointer (some ⟨b1, 0, none⟩)), (181, .slice n.oa n.ops.length n.oc), (182, .int .i64 n.ops.length), (6, .bool s.2), (183, .int .i64 s.1)])
      (fun _ => pt b1 (cl n.cells 36) :: A) (fun s => s.1 ≤ n.ops.length ∧ s.2 = (b2 && !((n.ops.take s.1).any fun o => badOp o.abs))) (fun s => n.ops.length - s.1) (0, b2) ⟨rfl, rfl, rfl, rfl, rfl, trivial⟩ (Ent.refl _) ⟨by omega, by simp⟩ ?_
    rintro ⟨i, t⟩ ⟨hi, ht⟩
    dsimp only at hi ht ⊢
    by_cases hlt : i < n.ops.length
    · obtain ⟨o, ho⟩ := mem_get hlt
      have hmo : o ∈ n.ops := List.mem_of_getElem? ho
      have hst : (b2 && !((n.ops.take (i + 1)).any fun o => badOp o.abs)) = (t && !badOp o.abs) := by
        rw [take_snoc ho, List.any_append, Bool.not_or, ← Bool.and_assoc, ← ht, List.any_cons, List.any_nil, Bool.or_false]
      clear ht
      obtain ⟨bp, op, hpa, hr⟩ := RdS.elem (g := OV.cells) (fun _ => rfl) h.o.1 ho rfl
      rw [hpa]
      cases t with
      | false =>
        refine Q.r ?_; (repeat (intro b1; refine Q.r ?_))
        exact ⟨(i + 1, false), ⟨rfl, rfl, rfl, rfl, rfl, trivial⟩, by exact Go.SX.Ent.go, ⟨by dsimp only; omega, by rw [hst]; rfl⟩, by dsimp only; omega⟩
      | true =>
      rw [Bool.true_and] at hst
      by_cases e1 : 1099511627776 < o.id
      · refine Q.r ?_; (repeat (intro b1; refine Q.r ?_))
        exact ⟨(i + 1, false), ⟨rfl, rfl, rfl, rfl, rfl, trivial⟩, by exact Go.SX.Ent.go, ⟨by dsimp only; omega, by rw [hst]; unfold badOp; rw [decide_eq_true e1]; rfl⟩, by dsimp only; omega⟩
      · refine Q.r ?_; (repeat (intro b1; refine Q.r ?_))
        refine S.cr rfl (Rvec_spec o.a o.c o.vec _ ((h.o.2 o hmo).sub) (hk.ov o hmo)) ?_
        rintro _ _ ⟨rfl, rfl⟩
        refine Q.r ?_; (repeat (intro b1; refine Q.r ?_))
        exact ⟨(i + 1, bareV o.vec), ⟨rfl, rfl, rfl, rfl, rfl, trivial⟩, by exact Go.SX.Ent.go, ⟨by dsimp only; omega, by rw [hst]; unfold badOp; rw [decide_eq_false e1]; simp only [Bool.or_true, Bool.true_or, Bool.or_false, Bool.false_or, Bool.not_true, Bool.not_false, Bool.false_and, Bool.and_false, Bool.true_and, Bool.and_true, Bool.not_not]⟩, by dsimp only; omega⟩
    · have hie : i = n.ops.length := by omega
      subst hie
      rw [List.take_length] at ht
      refine Q.r ?_; (repeat (intro b1; refine Q.r ?_))
      exact ⟨t, ⟨rfl, rfl, trivial⟩, Ent.refl _, ht⟩
  intro b3 hb3
  rw [← hb3]
  clear hb3 b2
  refine Q.r ?_; (repeat (intro b1; refine Q.r ?_))
  refine swp_cutB (σ := Bool) (fun s => [(6, .bool s)]) (fun s => A) (fun s => s = (b3 && !(n.hits.any fun o => badHit o.abs))) ?_ ?_
  · refine swp_loop (σ := Nat × Bool) (fun s => [(200, .slice n.ha n.hits.length n.hc), (201, .int .i64 n.hits.length), (6, .bool s.2), (202, .int .i64 s.1)])
      (fun _ => A) (fun s => s.1 ≤ n.hits.length ∧ s.2 = (b3 && !((n.hits.take s.1).any fun o => badHit o.abs))) (fun s => n.hits.length - s.1) (0, b3) ⟨rfl, rfl, rfl, rfl, trivial⟩ (Ent.drop (Ent.refl _)) ⟨by omega, by simp⟩ ?_
    rintro ⟨i, t⟩ ⟨hi, ht⟩
    dsimp only at hi ht ⊢
    by_cases hlt : i < n.hits.length
    · obtain ⟨o, ho⟩ := mem_get hlt
      have hmo : o ∈ n.hits := List.mem_of_getElem? ho
      have hst : (b3 && !((n.hits.take (i + 1)).any fun o => badHit o.abs)) = (t && !badHit o.abs) := by
        rw [take_snoc ho, List.any_append, Bool.not_or, ← Bool.and_assoc, ← ht, List.any_cons, List.any_nil, Bool.or_false]
      clear ht
      obtain ⟨bp, op, hpa, hr⟩ := RdS.elem (g := HV.cells) (fun _ => rfl) h.h ho rfl
      rw [hpa]
      cases t with
      | false =>
        refine Q.r ?_; (repeat (intro b1; refine Q.r ?_))
        exact ⟨(i + 1, false), ⟨rfl, rfl, rfl, rfl, trivial⟩, by exact Go.SX.Ent.go, ⟨by dsimp only; omega, by rw [hst]; rfl⟩, by dsimp only; omega⟩
      | true =>
      rw [Bool.true_and] at hst
      by_cases e1 : 1099511627776 < o.id
      · refine Q.r ?_; (repeat (intro b1; refine Q.r ?_))
        exact ⟨(i + 1, false), ⟨rfl, rfl, rfl, rfl, trivial⟩, by exact Go.SX.Ent.go, ⟨by dsimp only; omega, by rw [hst]; unfold badHit; rw [decide_eq_true e1]; rfl⟩, by dsimp only; omega⟩
      · refine Q.r ?_; (repeat (intro b1; refine Q.r ?_))
        refine S.cr rfl (RRight_spec o.a o.c o.vec _ ((h.hv o hmo).sub) (by have := hk.hv o hmo; omega)) ?_
        rintro _ _ ⟨rfl, rfl⟩
        refine Q.r ?_; (repeat (intro b1; refine Q.r ?_))
        exact ⟨(i + 1, rightV o.vec), ⟨rfl, rfl, rfl, rfl, trivial⟩, by exact Go.SX.Ent.go, ⟨by dsimp only; omega, by rw [hst]; unfold badHit; rw [decide_eq_false e1]; simp only [Bool.or_true, Bool.true_or, Bool.or_false, Bool.false_or, Bool.not_true, Bool.not_false, Bool.false_and, Bool.and_false, Bool.true_and, Bool.and_true, Bool.not_not]⟩, by dsimp only; omega⟩
    · have hie : i = n.hits.length := by omega
      subst hie
      rw [List.take_length] at ht
      refine Q.r ?_; (repeat (intro b1; refine Q.r ?_))
      exact ⟨t, ⟨rfl, trivial⟩, Ent.refl _, ht⟩
  intro b4 hb4
  rw [← hb4]
  refine Q.r ?_; (repeat (intro b1; refine Q.r ?_))
  exact N.r1 (RV.tmp rfl RV.nil) (Ent.refl _) ⟨rfl, rfl⟩
end Go.Proofs.YtjidejcehmamkaaGreatDoor
namespace Go.SX
open Go
theorem S.stON {P : Program} {n : Nat} {ops rest : List Oper} {Q : Post} {f : Env} {L : List HP} {ty : TypeId} {pos : String} {af : Array Edge} {x y : Operand} {t t0 s sz m c bts : Nat} {ag : Bool} {zs cs cs' ds : List Value} {b o : Nat} {v : Value} {L' : HP → List HP} [h : Ty P t ag s zs bts] [hu : UpdS (some ⟨b, 0, none⟩) L t0 sz m c cs L']
    (hx : ev f x = some (.pointer (some ⟨b, o, none⟩))) (hy : ev f y = some v) (hv : v.cells.toList = ds) (hn : ds.length = s) (h1 : ds.all (·.oneCell') = true) (hl : o + s ≤ cs.length) (hl' : putAt cs o ds = cs')
    (hk : opsS P n ops rest Q f (L' (slO t0 sz (some ⟨b, 0, none⟩) m c cs'))) : opsS P n ops (⟨none, .store t x y, ty, pos, af, none⟩ :: rest) Q f L := by
  obtain ⟨R, p1, p2⟩ := hu.at_
  refine opsS_ent (L' := slO t0 sz (some ⟨b, 0, none⟩) m c cs :: R) (Ent.perm p1) ?_
  intro ok F a w s' t1
  have hpl : (putAt cs o ds).length = cs.length := by unfold putAt; simp; omega
  obtain ⟨hlen, hc⟩ := St.slO_open (L := R ++ F) (by simpa using t1)
  rcases hc with ⟨e, _⟩ | ⟨b', rs, e, hmc, hcl, hs⟩
  · cases e
  · cases e
    have key : opsS P n ops (⟨none, .store t x y, ty, pos, af, none⟩ :: rest) Q f (pt b (cl (cs ++ rs) t0) :: R) := by
      refine S.st hx hy hv hn h1 (Nat.ble_eq_true_of_le (by rw [List.length_append]; omega)) rfl ?_
      refine opsS_ent (Ent.trans ?_ (Ent.perm (p2 _))) hk
      have e2 : putAt (cs ++ rs) o ds = cs' ++ rs := by
        rw [← hl']
        unfold putAt
        rw [List.take_append_of_le_length (by omega), List.drop_append_of_le_length (by omega)]
        simp
      rw [e2]
      refine slO_shut (by rw [← hl', hpl]; exact hlen) hmc (by rw [← hl']; simpa [hpl] using hcl)
    exact key ok F a w s' (by simpa using hs)
end Go.SX
namespace Go.Proofs.YtjidejcehmamkaaGreatDoor
open Go Go.SX
attribute [local irreducible] swp opsS thenS blockS retS CallsS St Ent YieldS anyS drawS
structure QV where
  txn : Int
  a : Option Addr
  c : Nat
  l : List Int
abbrev QV.cells (v : QV) : List Value := [.int .u64 v.txn, .slice v.a v.l.length v.c]
abbrev QV.abs (v : QV) : Int × List Int := (v.txn, v.l)
abbrev dC (d : Int × Int) : List Value := [.int .u64 d.1, .int .u64 d.2]
abbrev rjP (p : Nat) (self : Int) (v : Nat) (pa : Option Addr) (ps : List QV) (pc : Nat) (da : Option Addr) (ds : List (Int × Int)) (dc : Nat) : HP := pt p (cl [.int .i64 self, ptrV v, .slice pa ps.length pc, .slice da ds.length dc] 92)
structure RJOK (M : Nat → Option Obj) (j : JS) (sf : Int) (pa : Option Addr) (pc : Nat) (ps : List QV) (da : Option Addr) (dc : Nat) (ds : List (Int × Int)) : Prop where
  s1 : 1 ≤ sf
  s2 : sf ≤ 15
  pp : (ps.map QV.abs).Perm j.parts
  po : ∀ u ∈ ps, SlM M u.a u.l.length 1 (u.l.map I64)
  pS : SlM M pa ps.length 2 (ps.flatMap QV.cells)
  dp : ds.Perm j.done
  sd : (ds.map (·.1)).Pairwise (· < ·)
  dS : SlM M da ds.length 2 (ds.flatMap dC)
  dc : ds.length ≤ dc
  kp : keysOK j.parts
  kd : keysOK j.done
structure RJX where
  v : Nat
  self : Int
  pa : Option Addr
  pc : Nat
  ps : List QV
  da : Option Addr
  dc : Nat
  ds : List (Int × Int)
  M : Nat → Option Obj
def rjH (p : Nat) (j : JS) : HP := exH fun x : RJX => allH [pureH (RJOK x.M j x.self x.pa x.pc x.ps x.da x.dc x.ds), rjP p x.self x.v x.pa x.ps x.pc x.da x.ds x.dc, refH x.v j.v, roM x.M]
theorem rj_shut {p v : Nat} {self : Int} {M : Nat → Option Obj} {j : JS} {pa : Option Addr} {pc : Nat} {ps : List QV} {da : Option Addr} {dc : Nat} {ds : List (Int × Int)} {L : List HP} (h : RJOK M j self pa pc ps da dc ds) : Ent (rjP p self v pa ps pc da ds dc :: refH v j.v :: roM M :: L) (rjH p j :: L) :=
  Ent.trans (Ent.shut_pure h) (Ent.trans (Ent.shut_all (L := [_, _, _, _])) (Ent.shut_ex (P := fun x : RJX => allH [pureH (RJOK x.M j x.self x.pa x.pc x.ps x.da x.dc x.ds), rjP p x.self x.v x.pa x.ps x.pc x.da x.ds x.dc, refH x.v j.v, roM x.M]) ⟨v, self, pa, pc, ps, da, dc, ds, M⟩))
class PickRJ (p : Nat) (L : List HP) (j : outParam JS) (L0 : outParam (List HP)) : Prop where
  ent : Ent L (rjH p j :: L0)
instance PickRJ.here {p : Nat} {L : List HP} {j : JS} : PickRJ p (rjH p j :: L) j L := ⟨Ent.refl _⟩
instance (priority := low) PickRJ.there {p : Nat} {A : HP} {L L0 : List HP} {j : JS} [h : PickRJ p L j L0] : PickRJ p (A :: L) j (A :: L0) := ⟨(h.ent.cons).trans (Ent.perm (.swap _ _ _))⟩
section
variable {n : Nat} {ops rest : List Oper} {cd : Code} {Q : Post} {f : Env} {L L0 : List HP} {j : JS}
theorem swp_rj (p : Nat) [hp : PickRJ p L j L0] (h : ∀ v self M pa pc ps da dc ds, RJOK M j self pa pc ps da dc ds → swp Tryz.prog n cd Q f (rjP p self v pa ps pc da ds dc :: refH v j.v :: roM M :: L0)) : swp Tryz.prog n cd Q f L :=
  swp_ent hp.ent (swp_ex fun x => swp_all (swp_pure fun hx => h x.v x.self x.M x.pa x.pc x.ps x.da x.dc x.ds hx))
end
theorem rjclose {p v : Nat} {sf : Int} {M : Nat → Option Obj} {j : JS} {pa : Option Addr} {pc : Nat} {ps : List QV} {da : Option Addr} {dc : Nat} {ds : List (Int × Int)} {L L0 L1 L2 : List HP} [h1 : Pick (rjP p sf v pa ps pc da ds dc) L L0] [h2 : PickR v L0 j.v L1] [h3 : Pick (roM M) L1 L2] (hq : RJOK M j sf pa pc ps da dc ds) : Ent L (rjH p j :: L2) :=
  Ent.trans h1.ent (Ent.trans (Ent.cons (Ent.trans h2.ent (Ent.cons h3.ent))) (rj_shut hq))
theorem RJOK.lk {M : Nat → Option Obj} {j : JS} {sf : Int} {pa : Option Addr} {pc : Nat} {ps : List QV} {da : Option Addr} {dc : Nat} {ds : List (Int × Int)} (h : RJOK M j sf pa pc ps da dc ds) (t : Int) : lkL ds t = lkL j.done t := lkL_perm h.kd h.dp t
theorem lkL_at {α : Type} {ds : List (Int × α)} {k : Nat} {d : Int × α} (h : ds[k]? = some d) (hn : ∀ u ∈ ds.take k, u.1 ≠ d.1) : lkL ds d.1 = some d.2 := by
  have hl : k < ds.length := (List.getElem?_eq_some_iff.1 h).1
  have e : ds = ds.take k ++ d :: ds.drop (k + 1) := by
    have := List.getElem?_eq_some_iff.1 h
    rw [← this.2, List.getElem_cons_drop, List.take_append_drop]
  obtain ⟨x, y⟩ := d
  rw [e]
  exact lkL_mid (fun u hu => hn u hu)
theorem FindD_spec (p v : Nat) (self : Int) (pa : Option Addr) (ps : List QV) (pc : Nat) (da : Option Addr) (ds : List (Int × Int)) (dc : Nat) (t : Int) (M : Nat → Option Obj) (A : List HP) (h : SlM M da ds.length 2 (ds.flatMap dC)) (hn : ds.length ≤ 1000000) :
    CallsS Tryz.prog 77 [.pointer (some ⟨p, 0, none⟩), .int .u64 t] (rjP p self v pa ps pc da ds dc :: roM M :: A) (fun r L' => r = .int .u64 ((lkL ds t).getD 0) ∧ L' = rjP p self v pa ps pc da ds dc :: roM M :: A) := by
  refine CallsS.of_body Tryz.func77 rfl rfl rfl ?_
  refine Q.r ?_; (repeat (intro b1; refine Q.r ?_))
  refine swp_loop (σ := Nat) (fun k => [(1, .int .u64 t), (10, .slice da ds.length dc), (11, .int .i64 ds.length), (12, .int .i64 k)]) (fun _ => rjP p self v pa ps pc da ds dc :: roM M :: A)
    (fun k => k ≤ ds.length ∧ ∀ d ∈ ds.take k, d.1 ≠ t) (fun k => ds.length - k) 0 ⟨rfl, rfl, rfl, rfl, trivial⟩ (Ent.refl _) ⟨by omega, by simp⟩ ?_
  rintro k ⟨hk, hno⟩
  by_cases hlt : k < ds.length
  · obtain ⟨d, hd⟩ := mem_get hlt
    have hrs : RdS (rjP p self v pa ps pc da ds dc :: roM M :: A) da ds.length 2 (ds.flatMap dC) := h.rd
    obtain ⟨b, oo, hia, hr⟩ := RdS.elem (g := dC) (fun _ => rfl) hrs hd rfl
    clear hrs
    rw [hia] at hr ⊢
    by_cases he : d.1 = t
    · refine Q.r ?_; (repeat (intro b1; refine Q.r ?_))
      refine N.r1 (RV.tmp rfl RV.nil) (by exact Go.SX.Ent.go) ⟨?_, rfl⟩
      subst he
      rw [lkL_at hd hno]; rfl
    · refine Q.r ?_; (repeat (intro b1; refine Q.r ?_))
      refine ⟨k + 1, ⟨rfl, rfl, rfl, rfl, trivial⟩, by exact Go.SX.Ent.go, ⟨by omega, ?_⟩, by omega⟩
      rw [take_snoc hd]
      intro j hj
      rcases List.mem_append.1 hj with hj | hj
      · exact hno j hj
      · obtain rfl := List.mem_singleton.1 hj
        exact he
  · have hke : k = ds.length := by omega
    subst hke
    rw [List.take_length] at hno
    refine Q.r ?_; (repeat (intro b1; refine Q.r ?_))
    refine N.r1 (RV.tmp rfl RV.nil) (Ent.refl _) ⟨?_, rfl⟩
    rw [lkL_none hno]; rfl
theorem RNew_spec (sf dim : Int) (L : List HP) (s1 : 1 ≤ sf) (s2 : sf ≤ 15) :
    CallsS Tryz.prog 9 [.int .i64 sf, .int .i64 dim] L (fun r L' => ∃ p, r = .pointer (some ⟨p, 0, none⟩) ∧ L' = rjH p ⟨⟨dim, [], [], 0⟩, [], []⟩ :: L) := by
  refine CallsS.of_body Tryz.func9 rfl rfl rfl ?_
  refine Q.r ?_; (repeat (intro b1; refine Q.r ?_))
  rename_i b0
  refine N.r1 (RV.tmp rfl RV.nil) ?_ ⟨b1, rfl, rfl⟩
  refine Ent.trans (M := rP b0 dim none [] 0 none [] 0 0 :: roM (fun _ => none) :: rjP b1 sf b0 none [] 0 none [] 0 :: roM (fun _ => none) :: L) (by exact Go.SX.Ent.go) ?_
  refine Ent.trans (ref_shut (p := b0) (st := ⟨dim, [], [], 0⟩) (es := []) (is := []) (a := none) (a' := none) (c := 0) (c' := 0) ⟨by simp, by simp, by simp, by simp, by simp, by simp, ⟨rfl, .inl rfl⟩, ⟨rfl, .inl rfl⟩, by simp, by simp, by simp [keysOK], by simp [keysOK], by simp⟩) ?_
  refine Ent.trans (Ent.perm (.swap _ _ _)) ?_
  exact rj_shut (j := ⟨⟨dim, [], [], 0⟩, [], []⟩) (ps := []) (ds := []) ⟨s1, s2, by simp, by simp, ⟨rfl, .inl rfl⟩, by simp, by simp, ⟨rfl, .inl rfl⟩, by simp, by simp [keysOK], by simp [keysOK]⟩
theorem without_spec (a : Option Addr) (c : Nat) (ps : List QV) (t : Int) (A : List HP) (h : RdS A a ps.length 2 (ps.flatMap QV.cells)) (hn : ps.length ≤ 1000000) :
    CallsS Tryz.prog 93 [.slice a ps.length c, .int .u64 t] A (fun r L' => ∃ a' c', r = .slice a' (ps.filter fun u => !decide (u.txn = t)).length c' ∧ L' = slO 180 2 a' (ps.filter fun u => !decide (u.txn = t)).length c' ((ps.filter fun u => !decide (u.txn = t)).flatMap QV.cells) :: A) := by
  refine CallsS.of_body Tryz.func93 rfl rfl rfl ?_
  refine Q.r ?_; (repeat (intro b1; refine Q.r ?_))
  refine swp_loop (σ := Nat × Option Addr × Nat × List QV) (fun s => [(1, .int .u64 t), (8, .slice a ps.length c), (9, .int .i64 ps.length), (5, .slice s.2.1 s.2.2.2.length s.2.2.1), (10, .int .i64 s.1)])
    (fun s => slO 180 2 s.2.1 s.2.2.2.length s.2.2.1 (s.2.2.2.flatMap QV.cells) :: A)
    (fun s => s.1 ≤ ps.length ∧ s.2.2.2 = (ps.take s.1).filter fun u => !decide (u.txn = t)) (fun s => ps.length - s.1) (0, none, 0, []) ⟨rfl, rfl, rfl, rfl, rfl, trivial⟩ slO_nil ⟨by omega, by simp⟩ ?_
  rintro ⟨k, a3, c3, us⟩ ⟨hk, hus⟩
  dsimp only at hk hus ⊢
  have hul : us.length ≤ k := by
    rw [hus]
    exact Nat.le_trans (List.length_filter_le _ _) (by rw [List.length_take]; omega)
  by_cases hlt : k < ps.length
  · obtain ⟨q, hq⟩ := mem_get hlt
    have hrs : RdS (slO 180 2 a3 us.length c3 (us.flatMap QV.cells) :: A) a ps.length 2 (ps.flatMap QV.cells) := h.sub
    obtain ⟨b, oo, hia, hr⟩ := RdS.elem (g := QV.cells) (fun _ => rfl) hrs hq rfl
    clear hrs
    rw [hia]
    by_cases he : q.txn = t
    · refine Q.r ?_; (repeat (intro b1; refine Q.r ?_))
      refine ⟨(k + 1, a3, c3, us), ⟨rfl, rfl, rfl, rfl, rfl, trivial⟩, by exact Go.SX.Ent.go, ⟨by dsimp only; omega, ?_⟩, by dsimp only; omega⟩
      dsimp only
      rw [take_snoc hq, List.filter_append, ← hus, List.filter_cons, if_neg (by simp [he]), List.filter_nil, List.append_nil]
    · refine Q.r ?_; (repeat (intro b1; refine Q.r ?_))
      refine S.app rfl rfl (SrcS.sl RdC.row (by rfl) (by rfl)) (by rfl) (by omega) (by omega) (fun a7 c7 => ?_)
      refine Q.r ?_; (repeat (intro b1; refine Q.r ?_))
      refine ⟨(k + 1, a7, c7, us ++ [q]), ⟨rfl, rfl, rfl, congrArg some (by simp), rfl, trivial⟩, ?_, ⟨by dsimp only; omega, ?_⟩, by dsimp only; omega⟩
      · dsimp only
        rw [len_snoc, flat_snoc]
        exact Go.SX.Ent.go
      · dsimp only
        rw [take_snoc hq, List.filter_append, ← hus, List.filter_cons, if_pos (by simp [he]), List.filter_nil]
  · have hke : k = ps.length := by omega
    subst hke
    rw [List.take_length] at hus
    subst hus
    refine Q.r ?_; (repeat (intro b1; refine Q.r ?_))
    exact N.r1 (RV.tmp rfl RV.nil) (Ent.refl _) ⟨a3, c3, rfl, rfl⟩
def insD (ds : List (Int × Int)) (d : Int × Int) : List (Int × Int) := ds.filter (fun u => decide (u.1 < d.1)) ++ d :: ds.filter (fun u => decide (d.1 < u.1))
theorem dC_one (xs : List (Int × Int)) : (xs.flatMap dC).all (·.oneCell') = true := by simp [Value.oneCell']
theorem insD_eq {ds : List (Int × Int)} {d : Int × Int} {k : Nat} (h1 : ∀ u ∈ ds.take k, u.1 < d.1) (h2 : ∀ u ∈ ds.drop k, d.1 ≤ u.1) : insD ds d = ds.take k ++ d :: (ds.drop k).filter (fun u => decide (d.1 < u.1)) := by
  unfold insD
  have e : ds = ds.take k ++ ds.drop k := (List.take_append_drop k ds).symm
  conv => lhs; rw [e]
  rw [List.filter_append, List.filter_append]
  rw [List.filter_eq_self.2 (fun u hu => by have := h1 u hu; simp; omega), List.filter_eq_nil_iff.2 (fun u hu => by have := h2 u hu; simp; omega), List.append_nil, List.filter_eq_nil_iff.2 (fun u hu => by have := h1 u hu; simp; omega), List.nil_append]
set_option maxHeartbeats 2000000 in
theorem put_spec (a : Option Addr) (c : Nat) (ds : List (Int × Int)) (d : Int × Int) (A : List HP) (h : RdS A a ds.length 2 (ds.flatMap dC)) (hc : ds.length ≤ c) (hn : ds.length ≤ 1000000) (hs : (ds.map (·.1)).Pairwise (· < ·)) :
    CallsS Tryz.prog 95 [.slice a ds.length c, .agg (dC d).toArray] A (fun r L' => ∃ a' c', r = .slice a' (insD ds d).length c' ∧ L' = slO 182 2 a' (insD ds d).length c' ((insD ds d).flatMap dC) :: A) := by
  refine CallsS.of_body Tryz.func95 rfl rfl rfl ?_
  refine Q.r ?_; (repeat (intro b1; refine Q.r ?_))
  refine swp_cutB (σ := Nat) (fun k => [(0, .slice a ds.length c), (3, .pointer (some ⟨b1, 0, none⟩)), (5, .int .i64 k)]) (fun _ => pt b1 (cl (dC d) 182) :: A)
    (fun k => k ≤ ds.length ∧ (∀ u ∈ ds.take k, u.1 < d.1) ∧ ∀ u, ds[k]? = some u → d.1 ≤ u.1) ?_ ?_
  · refine swp_loop (σ := Nat) (fun k => [(0, .slice a ds.length c), (3, .pointer (some ⟨b1, 0, none⟩)), (5, .int .i64 k)]) (fun _ => pt b1 (cl (dC d) 182) :: A)
      (fun k => k ≤ ds.length ∧ ∀ u ∈ ds.take k, u.1 < d.1) (fun k => ds.length - k) 0 ⟨rfl, rfl, rfl, trivial⟩ (Ent.refl _) ⟨by omega, by simp⟩ ?_
    rintro k ⟨hk, hall⟩
    by_cases hlt : k < ds.length
    · obtain ⟨q, hq⟩ := mem_get hlt
      obtain ⟨b, oo, hia, hr⟩ := RdS.elem (g := dC) (fun _ => rfl) h hq rfl
      rw [hia]
      by_cases he : q.1 < d.1
      · refine Q.r ?_; (repeat (intro b1; refine Q.r ?_))
        refine D.start [] [] [0, 1, 2, 3, 4, 5, 6, 7, 8, 9, 10, 11, 12, 13] _ [] rfl (by kernel_rfl) rfl (by kernel_rfl) NoPanic.no (Ent.refl _) ?_
        repeat (first | refine Q.dyn rfl rfl rfl ?_ | refine Q.dyl rfl rfl rfl ?_ | refine D.y rfl rfl rfl (by kernel_rfl) (by first | exact (Y.ldRj rfl (by first | assumption | exact RdC.sub (by assumption)) rfl) | exact Y.guard rfl (Y.ldRj rfl (by first | assumption | exact RdC.sub (by assumption)) rfl)) ?_ | refine D.endA ?_ | refine Q.dp rfl rfl rfl ?_ | refine Q.dy rfl rfl rfl ?_ | refine D.end_ ?_ | refine Q.endH ?_ | (refine D.e rfl rfl rfl ?_; (first | refine S.gskip1 rfl ?_ | refine S.gskip rfl ?_ | refine S.y (Y.gskipU rfl) ?_); refine opsS_nil ?_; refine N.tn ?_) | refine Q.dT rfl rfl rfl ?_ | refine Q.dF rfl rfl rfl ?_ | (refine D.e rfl rfl rfl ?_; (first | (refine GQ.a ?_; refine Q.al (fun b1 => ?_)) | (refine GQ.s ?_; refine Q.st ?_)); refine opsS_nil ?_; refine N.tn ?_))
        refine Q.r ?_; (repeat (intro b1; refine Q.r ?_))
        refine ⟨k + 1, ⟨rfl, rfl, rfl, trivial⟩, Ent.refl _, ⟨by omega, ?_⟩, by omega⟩
        rw [take_snoc hq]
        intro u hu
        rcases List.mem_append.1 hu with hu | hu
        · exact hall u hu
        · obtain rfl := List.mem_singleton.1 hu
          exact he
      · refine Q.r ?_; (repeat (intro b1; refine Q.r ?_))
        refine D.start [] [] [0, 1, 2, 3, 4, 5, 6, 7, 8, 9, 10, 11, 12, 13] _ [] rfl (by kernel_rfl) rfl (by kernel_rfl) NoPanic.no (Ent.refl _) ?_
        repeat (first | refine Q.dyn rfl rfl rfl ?_ | refine Q.dyl rfl rfl rfl ?_ | refine D.y rfl rfl rfl (by kernel_rfl) (by first | exact (Y.ldRj rfl (by first | assumption | exact RdC.sub (by assumption)) rfl) | exact Y.guard rfl (Y.ldRj rfl (by first | assumption | exact RdC.sub (by assumption)) rfl)) ?_ | refine D.endA ?_ | refine Q.dp rfl rfl rfl ?_ | refine Q.dy rfl rfl rfl ?_ | refine D.end_ ?_ | refine Q.endH ?_ | (refine D.e rfl rfl rfl ?_; (first | refine S.gskip1 rfl ?_ | refine S.gskip rfl ?_ | refine S.y (Y.gskipU rfl) ?_); refine opsS_nil ?_; refine N.tn ?_) | refine Q.dT rfl rfl rfl ?_ | refine Q.dF rfl rfl rfl ?_ | (refine D.e rfl rfl rfl ?_; (first | (refine GQ.a ?_; refine Q.al (fun b1 => ?_)) | (refine GQ.s ?_; refine Q.st ?_)); refine opsS_nil ?_; refine N.tn ?_))
        refine Q.r ?_; (repeat (intro b1; refine Q.r ?_))
        refine ⟨k, ⟨rfl, rfl, rfl, trivial⟩, Ent.refl _, hk, hall, fun u hu => ?_⟩
        rw [hq] at hu
        cases hu
        omega
    · refine Q.r ?_; (repeat (intro b1; refine Q.r ?_))
      refine D.start [] [] [0, 1, 2, 3, 4, 5, 6, 7, 8, 9, 10, 11, 12, 13] _ [] rfl (by kernel_rfl) rfl (by kernel_rfl) NoPanic.no (Ent.refl _) ?_
      repeat (first | refine Q.dyn rfl rfl rfl ?_ | refine Q.dyl rfl rfl rfl ?_ | refine D.y rfl rfl rfl (by kernel_rfl) (by first | exact (Y.ldRj rfl (by first | assumption | exact RdC.sub (by assumption)) rfl) | exact Y.guard rfl (Y.ldRj rfl (by first | assumption | exact RdC.sub (by assumption)) rfl)) ?_ | refine D.endA ?_ | refine Q.dp rfl rfl rfl ?_ | refine Q.dy rfl rfl rfl ?_ | refine D.end_ ?_ | refine Q.endH ?_ | (refine D.e rfl rfl rfl ?_; (first | refine S.gskip1 rfl ?_ | refine S.gskip rfl ?_ | refine S.y (Y.gskipU rfl) ?_); refine opsS_nil ?_; refine N.tn ?_) | refine Q.dT rfl rfl rfl ?_ | refine Q.dF rfl rfl rfl ?_ | (refine D.e rfl rfl rfl ?_; (first | (refine GQ.a ?_; refine Q.al (fun b1 => ?_)) | (refine GQ.s ?_; refine Q.st ?_)); refine opsS_nil ?_; refine N.tn ?_))
      refine Q.r ?_; (repeat (intro b1; refine Q.r ?_))
      refine ⟨k, ⟨rfl, rfl, rfl, trivial⟩, Ent.refl _, hk, hall, fun u hu => ?_⟩
      have := (List.getElem?_eq_some_iff.1 hu).1
      omega
  rintro k ⟨hk, hall, hnx⟩
  have hat : ds.length = 0 ∨ ∃ b o, a = some ⟨b, o, none⟩ := by
    rcases h.2 with h0 | ⟨b, o, h0, _⟩
    · exact .inl h0
    · exact .inr ⟨b, o, h0⟩
  have hge : ∀ u ∈ ds.drop k, d.1 ≤ u.1 := by
    by_cases hlt : k < ds.length
    · obtain ⟨q, hq⟩ := mem_get hlt
      have h1 := hnx q hq
      have e : ds.drop k = q :: ds.drop (k + 1) := by rw [← (List.getElem?_eq_some_iff.1 hq).2, List.getElem_cons_drop]
      have h2 := hs
      rw [← List.take_append_drop k ds, List.map_append, List.pairwise_append] at h2
      have h3 := h2.2.1
      rw [e, List.map_cons, List.pairwise_cons] at h3
      intro u hu
      rw [e] at hu
      rcases List.mem_cons.1 hu with rfl | hu
      · exact h1
      · have := h3.1 u.1 (List.mem_map_of_mem hu)
        omega
    · intro u hu
      rw [List.drop_eq_nil_of_le (by omega)] at hu
      cases hu
  have hI := insD_eq hall hge
  by_cases hx : ∃ q, ds[k]? = some q ∧ q.1 = d.1
  · obtain ⟨q, hq, he⟩ := hx
    have hlt : k < ds.length := (List.getElem?_eq_some_iff.1 hq).1
    have e : ds.drop k = q :: ds.drop (k + 1) := by rw [← (List.getElem?_eq_some_iff.1 hq).2, List.getElem_cons_drop]
    have hf : (ds.drop k).filter (fun u => decide (d.1 < u.1)) = ds.drop (k + 1) := by
      have h2 := hs
      rw [← List.take_append_drop k ds, List.map_append, List.pairwise_append] at h2
      have h3 := h2.2.1
      rw [e, List.map_cons, List.pairwise_cons] at h3
      rw [e, List.filter_cons, if_neg (by simp; omega), List.filter_eq_self.2 (fun u hu => by have := h3.1 u.1 (List.mem_map_of_mem hu); simp; omega)]
    rw [hf] at hI
    have hlen : (insD ds d).length = ds.length := by rw [hI]; simp; omega
    have hcells : putAt (ds.flatMap dC) (0 + k * 2) (dC d) = (insD ds d).flatMap dC := by
      unfold putAt
      rw [Nat.zero_add, flat_take (sz := 2) (fun _ => rfl), show k * 2 + (dC d).length = (k + 1) * 2 by simp; omega, flat_drop (sz := 2) (fun _ => rfl), hI, List.flatMap_append, List.flatMap_cons, List.append_assoc]
    have hcl : (ds.flatMap dC).length = ds.length * 2 := h.1
    rw [hlen, ← hcells]
    obtain ⟨b, oo, hia, hr⟩ := RdS.elem (g := dC) (fun _ => rfl) h hq rfl
    subst hia
    refine Q.r ?_; (repeat (intro b1; refine Q.r ?_))
    refine D.start [] [] [0, 1, 2, 3, 4, 5, 6, 7, 8, 9, 10, 11, 12, 13] _ [] rfl (by kernel_rfl) rfl (by kernel_rfl) NoPanic.no (Ent.refl _) ?_
    repeat (first | refine Q.dyn rfl rfl rfl ?_ | refine Q.dyl rfl rfl rfl ?_ | refine D.y rfl rfl rfl (by kernel_rfl) (by first | exact (Y.ldRj rfl (by first | assumption | exact RdC.sub (by assumption)) rfl) | exact Y.guard rfl (Y.ldRj rfl (by first | assumption | exact RdC.sub (by assumption)) rfl)) ?_ | refine D.endA ?_ | refine Q.dp rfl rfl rfl ?_ | refine Q.dy rfl rfl rfl ?_ | refine D.end_ ?_ | refine Q.endH ?_ | (refine D.e rfl rfl rfl ?_; (first | refine S.gskip1 rfl ?_ | refine S.gskip rfl ?_ | refine S.y (Y.gskipU rfl) ?_); refine opsS_nil ?_; refine N.tn ?_) | refine Q.dT rfl rfl rfl ?_ | refine Q.dF rfl rfl rfl ?_ | (refine D.e rfl rfl rfl ?_; (first | (refine GQ.a ?_; refine Q.al (fun b1 => ?_)) | (refine GQ.s ?_; refine Q.st ?_)); refine opsS_nil ?_; refine N.tn ?_))
    refine Q.r ?_; (repeat (intro b1; refine Q.r ?_))
    refine opsS_ent (slO_fold (sz := 2) (m := 0) rfl) ?_
    refine S.app0 rfl rfl rfl (SrcS.rd h.sub (dC_one _)) (by rfl) (by omega) (by omega) (fun a5 c5 => ?_)
    refine opsS_addr a5 (fun ha5 => ?_)
    rcases ha5 with ha5 | ⟨b5, rfl⟩
    · omega
    refine Q.r ?_; (repeat (intro b1; refine Q.r ?_))
    refine S.stON (ds := dC d) rfl rfl rfl rfl rfl (by show 0 + k * 2 + 2 ≤ (ds.flatMap dC).length; omega) rfl ?_
    refine Q.r ?_; (repeat (intro b1; refine Q.r ?_))
    refine N.r1 (RV.tmp rfl RV.nil) ?_ ⟨_, c5, rfl, rfl⟩
    exact Go.SX.Ent.go
  · have hf : (ds.drop k).filter (fun u => decide (d.1 < u.1)) = ds.drop k := by
      refine List.filter_eq_self.2 fun u hu => ?_
      have h1 := hge u hu
      by_cases he : u.1 = d.1
      · exfalso
        by_cases hlt : k < ds.length
        · obtain ⟨q, hq⟩ := mem_get hlt
          have e : ds.drop k = q :: ds.drop (k + 1) := by rw [← (List.getElem?_eq_some_iff.1 hq).2, List.getElem_cons_drop]
          have h2 := hs
          rw [← List.take_append_drop k ds, List.map_append, List.pairwise_append] at h2
          have h3 := h2.2.1
          rw [e, List.map_cons, List.pairwise_cons] at h3
          rw [e] at hu
          rcases List.mem_cons.1 hu with rfl | hu
          · exact hx ⟨_, hq, he⟩
          · have := h3.1 u.1 (List.mem_map_of_mem hu)
            have := hnx q hq
            omega
        · rw [List.drop_eq_nil_of_le (by omega)] at hu
          cases hu
      · simp; omega
    rw [hf] at hI
    have hlen : (insD ds d).length = k + 1 + (ds.length - k) := by rw [hI]; simp; omega
    have hcells : (insD ds d).flatMap dC = (ds.flatMap dC).take (k * 2) ++ dC d ++ (ds.flatMap dC).drop (k * 2) := by
      rw [flat_take (sz := 2) (fun _ => rfl), flat_drop (sz := 2) (fun _ => rfl), hI, List.flatMap_append, List.flatMap_cons, List.append_assoc]
    rw [hlen, hcells]
    by_cases hlt : k < ds.length
    · obtain ⟨q, hq⟩ := mem_get hlt
      have hne : ¬ q.1 = d.1 := fun he => hx ⟨q, hq, he⟩
      obtain ⟨b, oo, hia, hr⟩ := RdS.elem (g := dC) (fun _ => rfl) h hq rfl
      rw [hia] at h hat ⊢
      refine Q.r ?_; (repeat (intro b1; refine Q.r ?_))
      refine D.start [] [] [0, 1, 2, 3, 4, 5, 6, 7, 8, 9, 10, 11, 12, 13] _ [] rfl (by kernel_rfl) rfl (by kernel_rfl) NoPanic.no (Ent.refl _) ?_
      repeat (first | refine Q.dyn rfl rfl rfl ?_ | refine Q.dyl rfl rfl rfl ?_ | refine D.y rfl rfl rfl (by kernel_rfl) (by first | exact (Y.ldRj rfl (by first | assumption | exact RdC.sub (by assumption)) rfl) | exact Y.guard rfl (Y.ldRj rfl (by first | assumption | exact RdC.sub (by assumption)) rfl)) ?_ | refine D.endA ?_ | refine Q.dp rfl rfl rfl ?_ | refine Q.dy rfl rfl rfl ?_ | refine D.end_ ?_ | refine Q.endH ?_ | (refine D.e rfl rfl rfl ?_; (first | refine S.gskip1 rfl ?_ | refine S.gskip rfl ?_ | refine S.y (Y.gskipU rfl) ?_); refine opsS_nil ?_; refine N.tn ?_) | refine Q.dT rfl rfl rfl ?_ | refine Q.dF rfl rfl rfl ?_ | (refine D.e rfl rfl rfl ?_; (first | (refine GQ.a ?_; refine Q.al (fun b1 => ?_)) | (refine GQ.s ?_; refine Q.st ?_)); refine opsS_nil ?_; refine N.tn ?_))
      refine Q.r ?_; (repeat (intro b1; refine Q.r ?_))
      refine Q.dgo [true] [0, 4, 6, 7, 11] [] [1, 2, 3, 5, 8, 9, 10, 99999, 0, 0, 0, 0, 0] ?_
      refine Q.rd ?_; (repeat (intro b1; refine Q.rd ?_))
      refine D.yp rfl rfl rfl (Y.slT (h := k) rfl rfl rfl (by omega)) ?_
      refine Q.rd ?_; (repeat (intro b1; refine Q.rd ?_))
      refine D.yp rfl rfl rfl (Y.slFa (l := k) rfl rfl rfl hk hat) ?_
      refine Q.rd ?_; (repeat (intro b1; refine Q.rd ?_))
      refine D.two 0 6 [99999, 0, 0, 0, 0] [0, 4, 7, 11, 12] (by kernel_rfl) rfl rfl rfl rfl (by kernel_rfl) (by kernel_rfl) ?_ ?_
      · refine GQ.a ?_
        refine Q.al (fun bz => ?_)
        repeat (first | (refine GQ.y ?_; refine Q.y ?_) | refine Q.go ?_ | (refine GQ.g ?_; refine Q.gq ?_) | (refine GQ.s ?_; refine Q.st ?_))
        refine Q.rd ?_; (repeat (intro b1; refine Q.rd ?_))
        refine D.two 4 6 [6, 7, 11, 12] [4, 7, 11, 12] (by kernel_rfl) rfl rfl rfl rfl (by kernel_rfl) (by kernel_rfl) ?_ ?_
        · first | refine opsS_ent (slO_fold (sz := 2) (m := 0) rfl) ?_ | refine opsS_ent (Ent.trans (Ent.perm (.swap _ _ _)) (slO_fold (sz := 2) (m := 0) rfl)) ?_
          refine S.app0 rfl rfl rfl (SrcS.rd (RdS.take (k := k) h.sub (by omega)) (by rw [flat_take (sz := 2) (fun _ => rfl)]; exact dC_one _)) (by rfl) (by omega) (by omega) (fun a6 c6 => ?_)
          repeat (first | (refine GQ.y ?_; refine Q.y ?_) | refine Q.go ?_ | (refine GQ.g ?_; refine Q.gq ?_) | (refine GQ.s ?_; refine Q.st ?_))
          refine Q.rd ?_; (repeat (intro b1; refine Q.rd ?_))
          refine D.e rfl rfl rfl ?_
          refine S.app rfl rfl (SrcS.sl RdC.row (by rfl) (by rfl)) (by rfl) (by omega) (by omega) (fun a7 c7 => ?_)
          repeat (first | (refine GQ.y ?_; refine Q.y ?_) | refine Q.go ?_ | (refine GQ.g ?_; refine Q.gq ?_) | (refine GQ.s ?_; refine Q.st ?_))
          refine Q.rd ?_; (repeat (intro b1; refine Q.rd ?_))
          refine D.e rfl rfl rfl ?_
          refine S.app rfl rfl (SrcS.rd (RdS.fromA (l := k) h.sub (by omega) hc) (by rw [flat_drop (sz := 2) (fun _ => rfl)]; exact dC_one _)) (by rfl) (by omega) (by omega) (fun a8 c8 => ?_)
          repeat (first | (refine GQ.y ?_; refine Q.y ?_) | refine Q.go ?_ | (refine GQ.g ?_; refine Q.gq ?_) | (refine GQ.s ?_; refine Q.st ?_))
          refine Q.rd ?_; (repeat (intro b1; refine Q.rd ?_))
          refine Q.r ?_; (repeat (intro b1; refine Q.r ?_))
          exact N.r1 (RV.tmp rfl RV.nil) (by exact Go.SX.Ent.go) ⟨a8, c8, rfl, rfl⟩
        · refine GQ.a ?_
          refine Q.al (fun b8 => ?_)
          repeat (first | (refine GQ.y ?_; refine Q.y ?_) | refine Q.go ?_ | (refine GQ.g ?_; refine Q.gq ?_) | (refine GQ.s ?_; refine Q.st ?_))
          refine Q.rd ?_; (repeat (intro b1; refine Q.rd ?_))
          refine D.e rfl rfl rfl ?_
          first | refine opsS_ent (slO_fold (sz := 2) (m := 0) rfl) ?_ | refine opsS_ent (Ent.trans (Ent.perm (.swap _ _ _)) (slO_fold (sz := 2) (m := 0) rfl)) ?_
          refine S.app0 rfl rfl rfl (SrcS.rd (RdS.take (k := k) h.sub (by omega)) (by rw [flat_take (sz := 2) (fun _ => rfl)]; exact dC_one _)) (by rfl) (by omega) (by omega) (fun a6 c6 => ?_)
          repeat (first | (refine GQ.y ?_; refine Q.y ?_) | refine Q.go ?_ | (refine GQ.g ?_; refine Q.gq ?_) | (refine GQ.s ?_; refine Q.st ?_))
          refine Q.rd ?_; (repeat (intro b1; refine Q.rd ?_))
          refine D.e rfl rfl rfl ?_
          refine S.app rfl rfl (SrcS.sl RdC.row (by rfl) (by rfl)) (by rfl) (by omega) (by omega) (fun a7 c7 => ?_)
          repeat (first | (refine GQ.y ?_; refine Q.y ?_) | refine Q.go ?_ | (refine GQ.g ?_; refine Q.gq ?_) | (refine GQ.s ?_; refine Q.st ?_))
          refine Q.rd ?_; (repeat (intro b1; refine Q.rd ?_))
          refine D.e rfl rfl rfl ?_
          refine S.app rfl rfl (SrcS.rd (RdS.fromA (l := k) h.sub (by omega) hc) (by rw [flat_drop (sz := 2) (fun _ => rfl)]; exact dC_one _)) (by rfl) (by omega) (by omega) (fun a8 c8 => ?_)
          repeat (first | (refine GQ.y ?_; refine Q.y ?_) | refine Q.go ?_ | (refine GQ.g ?_; refine Q.gq ?_) | (refine GQ.s ?_; refine Q.st ?_))
          refine Q.rd ?_; (repeat (intro b1; refine Q.rd ?_))
          refine Q.r ?_; (repeat (intro b1; refine Q.r ?_))
          exact N.r1 (RV.tmp rfl RV.nil) (by exact Go.SX.Ent.go) ⟨a8, c8, rfl, rfl⟩
      · refine GQ.a ?_
        refine Q.al (fun b8 => ?_)
        repeat (first | (refine GQ.y ?_; refine Q.y ?_) | refine Q.go ?_ | (refine GQ.g ?_; refine Q.gq ?_) | (refine GQ.s ?_; refine Q.st ?_))
        refine Q.rd ?_; (repeat (intro b1; refine Q.rd ?_))
        refine D.e rfl rfl rfl ?_
        first | refine opsS_ent (slO_fold (sz := 2) (m := 0) rfl) ?_ | refine opsS_ent (Ent.trans (Ent.perm (.swap _ _ _)) (slO_fold (sz := 2) (m := 0) rfl)) ?_
        refine S.app0 rfl rfl rfl (SrcS.rd (RdS.take (k := k) h.sub (by omega)) (by rw [flat_take (sz := 2) (fun _ => rfl)]; exact dC_one _)) (by rfl) (by omega) (by omega) (fun a6 c6 => ?_)
        repeat (first | (refine GQ.y ?_; refine Q.y ?_) | refine Q.go ?_ | (refine GQ.g ?_; refine Q.gq ?_) | (refine GQ.s ?_; refine Q.st ?_))
        refine Q.rd ?_; (repeat (intro b1; refine Q.rd ?_))
        refine D.e rfl rfl rfl ?_
        refine S.app rfl rfl (SrcS.sl RdC.row (by rfl) (by rfl)) (by rfl) (by omega) (by omega) (fun a7 c7 => ?_)
        repeat (first | (refine GQ.y ?_; refine Q.y ?_) | refine Q.go ?_ | (refine GQ.g ?_; refine Q.gq ?_) | (refine GQ.s ?_; refine Q.st ?_))
        refine Q.rd ?_; (repeat (intro b1; refine Q.rd ?_))
        refine D.e rfl rfl rfl ?_
        refine S.app rfl rfl (SrcS.rd (RdS.fromA (l := k) h.sub (by omega) hc) (by rw [flat_drop (sz := 2) (fun _ => rfl)]; exact dC_one _)) (by rfl) (by omega) (by omega) (fun a8 c8 => ?_)
        repeat (first | (refine GQ.y ?_; refine Q.y ?_) | refine Q.go ?_ | (refine GQ.g ?_; refine Q.gq ?_) | (refine GQ.s ?_; refine Q.st ?_))
        refine Q.rd ?_; (repeat (intro b1; refine Q.rd ?_))
        refine Q.r ?_; (repeat (intro b1; refine Q.r ?_))
        exact N.r1 (RV.tmp rfl RV.nil) (by exact Go.SX.Ent.go) ⟨a8, c8, rfl, rfl⟩
    · refine Q.r ?_; (repeat (intro b1; refine Q.r ?_))
      refine D.start [] [] [0, 1, 2, 3, 4, 5, 6, 7, 8, 9, 10, 11, 12, 13] _ [] rfl (by kernel_rfl) rfl (by kernel_rfl) NoPanic.no (Ent.refl _) ?_
      repeat (first | refine Q.dyn rfl rfl rfl ?_ | refine Q.dyl rfl rfl rfl ?_ | refine D.y rfl rfl rfl (by kernel_rfl) (by first | exact (Y.ldRj rfl (by first | assumption | exact RdC.sub (by assumption)) rfl) | exact Y.guard rfl (Y.ldRj rfl (by first | assumption | exact RdC.sub (by assumption)) rfl)) ?_ | refine D.endA ?_ | refine Q.dp rfl rfl rfl ?_ | refine Q.dy rfl rfl rfl ?_ | refine D.end_ ?_ | refine Q.endH ?_ | (refine D.e rfl rfl rfl ?_; (first | refine S.gskip1 rfl ?_ | refine S.gskip rfl ?_ | refine S.y (Y.gskipU rfl) ?_); refine opsS_nil ?_; refine N.tn ?_) | refine Q.dT rfl rfl rfl ?_ | refine Q.dF rfl rfl rfl ?_ | (refine D.e rfl rfl rfl ?_; (first | (refine GQ.a ?_; refine Q.al (fun b1 => ?_)) | (refine GQ.s ?_; refine Q.st ?_)); refine opsS_nil ?_; refine N.tn ?_))
      refine Q.r ?_; (repeat (intro b1; refine Q.r ?_))
      refine Q.dgo [true] [0, 4, 6, 7, 11] [] [1, 2, 3, 5, 8, 9, 10, 99999, 0, 0, 0, 0, 0] ?_
      refine Q.rd ?_; (repeat (intro b1; refine Q.rd ?_))
      refine D.yp rfl rfl rfl (Y.slT (h := k) rfl rfl rfl (by omega)) ?_
      refine Q.rd ?_; (repeat (intro b1; refine Q.rd ?_))
      refine D.yp rfl rfl rfl (Y.slFa (l := k) rfl rfl rfl hk hat) ?_
      refine Q.rd ?_; (repeat (intro b1; refine Q.rd ?_))
      refine D.two 0 6 [99999, 0, 0, 0, 0] [0, 4, 7, 11, 12] (by kernel_rfl) rfl rfl rfl rfl (by kernel_rfl) (by kernel_rfl) ?_ ?_
      · refine GQ.a ?_
        refine Q.al (fun bz => ?_)
        repeat (first | (refine GQ.y ?_; refine Q.y ?_) | refine Q.go ?_ | (refine GQ.g ?_; refine Q.gq ?_) | (refine GQ.s ?_; refine Q.st ?_))
        refine Q.rd ?_; (repeat (intro b1; refine Q.rd ?_))
        refine D.two 4 6 [6, 7, 11, 12] [4, 7, 11, 12] (by kernel_rfl) rfl rfl rfl rfl (by kernel_rfl) (by kernel_rfl) ?_ ?_
        · first | refine opsS_ent (slO_fold (sz := 2) (m := 0) rfl) ?_ | refine opsS_ent (Ent.trans (Ent.perm (.swap _ _ _)) (slO_fold (sz := 2) (m := 0) rfl)) ?_
          refine S.app0 rfl rfl rfl (SrcS.rd (RdS.take (k := k) h.sub (by omega)) (by rw [flat_take (sz := 2) (fun _ => rfl)]; exact dC_one _)) (by rfl) (by omega) (by omega) (fun a6 c6 => ?_)
          repeat (first | (refine GQ.y ?_; refine Q.y ?_) | refine Q.go ?_ | (refine GQ.g ?_; refine Q.gq ?_) | (refine GQ.s ?_; refine Q.st ?_))
          refine Q.rd ?_; (repeat (intro b1; refine Q.rd ?_))
          refine D.e rfl rfl rfl ?_
          refine S.app rfl rfl (SrcS.sl RdC.row (by rfl) (by rfl)) (by rfl) (by omega) (by omega) (fun a7 c7 => ?_)
          repeat (first | (refine GQ.y ?_; refine Q.y ?_) | refine Q.go ?_ | (refine GQ.g ?_; refine Q.gq ?_) | (refine GQ.s ?_; refine Q.st ?_))
          refine Q.rd ?_; (repeat (intro b1; refine Q.rd ?_))
          refine D.e rfl rfl rfl ?_
          refine S.app rfl rfl (SrcS.rd (RdS.fromA (l := k) h.sub (by omega) hc) (by rw [flat_drop (sz := 2) (fun _ => rfl)]; exact dC_one _)) (by rfl) (by omega) (by omega) (fun a8 c8 => ?_)
          repeat (first | (refine GQ.y ?_; refine Q.y ?_) | refine Q.go ?_ | (refine GQ.g ?_; refine Q.gq ?_) | (refine GQ.s ?_; refine Q.st ?_))
          refine Q.rd ?_; (repeat (intro b1; refine Q.rd ?_))
          refine Q.r ?_; (repeat (intro b1; refine Q.r ?_))
          exact N.r1 (RV.tmp rfl RV.nil) (by exact Go.SX.Ent.go) ⟨a8, c8, rfl, rfl⟩
        · refine GQ.a ?_
          refine Q.al (fun b8 => ?_)
          repeat (first | (refine GQ.y ?_; refine Q.y ?_) | refine Q.go ?_ | (refine GQ.g ?_; refine Q.gq ?_) | (refine GQ.s ?_; refine Q.st ?_))
          refine Q.rd ?_; (repeat (intro b1; refine Q.rd ?_))
          refine D.e rfl rfl rfl ?_
          first | refine opsS_ent (slO_fold (sz := 2) (m := 0) rfl) ?_ | refine opsS_ent (Ent.trans (Ent.perm (.swap _ _ _)) (slO_fold (sz := 2) (m := 0) rfl)) ?_
          refine S.app0 rfl rfl rfl (SrcS.rd (RdS.take (k := k) h.sub (by omega)) (by rw [flat_take (sz := 2) (fun _ => rfl)]; exact dC_one _)) (by rfl) (by omega) (by omega) (fun a6 c6 => ?_)
          repeat (first | (refine GQ.y ?_; refine Q.y ?_) | refine Q.go ?_ | (refine GQ.g ?_; refine Q.gq ?_) | (refine GQ.s ?_; refine Q.st ?_))
          refine Q.rd ?_; (repeat (intro b1; refine Q.rd ?_))
          refine D.e rfl rfl rfl ?_
          refine S.app rfl rfl (SrcS.sl RdC.row (by rfl) (by rfl)) (by rfl) (by omega) (by omega) (fun a7 c7 => ?_)
          repeat (first | (refine GQ.y ?_; refine Q.y ?_) | refine Q.go ?_ | (refine GQ.g ?_; refine Q.gq ?_) | (refine GQ.s ?_; refine Q.st ?_))
          refine Q.rd ?_; (repeat (intro b1; refine Q.rd ?_))
          refine D.e rfl rfl rfl ?_
          refine S.app rfl rfl (SrcS.rd (RdS.fromA (l := k) h.sub (by omega) hc) (by rw [flat_drop (sz := 2) (fun _ => rfl)]; exact dC_one _)) (by rfl) (by omega) (by omega) (fun a8 c8 => ?_)
          repeat (first | (refine GQ.y ?_; refine Q.y ?_) | refine Q.go ?_ | (refine GQ.g ?_; refine Q.gq ?_) | (refine GQ.s ?_; refine Q.st ?_))
          refine Q.rd ?_; (repeat (intro b1; refine Q.rd ?_))
          refine Q.r ?_; (repeat (intro b1; refine Q.r ?_))
          exact N.r1 (RV.tmp rfl RV.nil) (by exact Go.SX.Ent.go) ⟨a8, c8, rfl, rfl⟩
      · refine GQ.a ?_
        refine Q.al (fun b8 => ?_)
        repeat (first | (refine GQ.y ?_; refine Q.y ?_) | refine Q.go ?_ | (refine GQ.g ?_; refine Q.gq ?_) | (refine GQ.s ?_; refine Q.st ?_))
        refine Q.rd ?_; (repeat (intro b1; refine Q.rd ?_))
        refine D.e rfl rfl rfl ?_
        first | refine opsS_ent (slO_fold (sz := 2) (m := 0) rfl) ?_ | refine opsS_ent (Ent.trans (Ent.perm (.swap _ _ _)) (slO_fold (sz := 2) (m := 0) rfl)) ?_
        refine S.app0 rfl rfl rfl (SrcS.rd (RdS.take (k := k) h.sub (by omega)) (by rw [flat_take (sz := 2) (fun _ => rfl)]; exact dC_one _)) (by rfl) (by omega) (by omega) (fun a6 c6 => ?_)
        repeat (first | (refine GQ.y ?_; refine Q.y ?_) | refine Q.go ?_ | (refine GQ.g ?_; refine Q.gq ?_) | (refine GQ.s ?_; refine Q.st ?_))
        refine Q.rd ?_; (repeat (intro b1; refine Q.rd ?_))
        refine D.e rfl rfl rfl ?_
        refine S.app rfl rfl (SrcS.sl RdC.row (by rfl) (by rfl)) (by rfl) (by omega) (by omega) (fun a7 c7 => ?_)
        repeat (first | (refine GQ.y ?_; refine Q.y ?_) | refine Q.go ?_ | (refine GQ.g ?_; refine Q.gq ?_) | (refine GQ.s ?_; refine Q.st ?_))
        refine Q.rd ?_; (repeat (intro b1; refine Q.rd ?_))
        refine D.e rfl rfl rfl ?_
        refine S.app rfl rfl (SrcS.rd (RdS.fromA (l := k) h.sub (by omega) hc) (by rw [flat_drop (sz := 2) (fun _ => rfl)]; exact dC_one _)) (by rfl) (by omega) (by omega) (fun a8 c8 => ?_)
        repeat (first | (refine GQ.y ?_; refine Q.y ?_) | refine Q.go ?_ | (refine GQ.g ?_; refine Q.gq ?_) | (refine GQ.s ?_; refine Q.st ?_))
        refine Q.rd ?_; (repeat (intro b1; refine Q.rd ?_))
        refine Q.r ?_; (repeat (intro b1; refine Q.r ?_))
        exact N.r1 (RV.tmp rfl RV.nil) (by exact Go.SX.Ent.go) ⟨a8, c8, rfl, rfl⟩
end Go.Proofs.YtjidejcehmamkaaGreatDoor
namespace Go.Proofs.YtjidejcehmamkaaGreatDoor
open Go Go.SX
attribute [local irreducible] swp opsS thenS blockS retS CallsS St Ent YieldS anyS drawS
set_option maxHeartbeats 2000000 in
theorem SameHitsN_spec (a : Option Addr) (c : Nat) (xs : List HV) (a' : Option Addr) (c' : Nat) (ys : List HV) (A : List HP) (h : RdS A a xs.length 3 (xs.flatMap HV.cells) ∧ ∀ o ∈ xs, RdS A o.a o.vec.length 1 (o.vec.map I32)) (h' : RdS A a' ys.length 3 (ys.flatMap HV.cells) ∧ ∀ o ∈ ys, RdS A o.a o.vec.length 1 (o.vec.map I32)) (hn : xs.length ≤ 1000000) (hv : ∀ o ∈ xs, o.vec.length ≤ 1000000) (he : xs.map HV.abs = ys.map HV.abs) :
    CallsS Tryz.prog 105 [.slice a xs.length c, .slice a' ys.length c'] A (fun v L' => v = .bool true ∧ L' = A) := by
  have hl : ys.length = xs.length := by
    have := congrArg List.length he
    simp at this; omega
  refine CallsS.of_body Tryz.func105 rfl rfl rfl ?_
  refine Q.r ?_; (repeat (intro b1; refine Q.r ?_))
  refine swp_loop (σ := Nat) (fun k => [(0, .slice a xs.length c), (1, .slice a' ys.length c'), (12, .int .i64 xs.length), (13, .int .i64 k)]) (fun _ => A)
    (fun k => k ≤ xs.length) (fun k => xs.length - k) 0 ⟨rfl, rfl, rfl, rfl, trivial⟩ (Ent.refl _) (by omega) ?_
  intro k hk
  by_cases hlt : k < xs.length
  · obtain ⟨x, hx⟩ := mem_get hlt
    obtain ⟨y, hy⟩ := mem_get (l := ys) (k := k) (by omega)
    have hxy : x.abs = y.abs := by
      have h1 : (xs.map HV.abs)[k]? = some x.abs := by simp [hx]
      have h2 : (ys.map HV.abs)[k]? = some y.abs := by simp [hy]
      rw [he, h2] at h1
      exact (Option.some.inj h1).symm
    have hid : x.id = y.id := congrArg Prod.fst hxy
    have hds : x.dist = y.dist := congrArg (fun z => z.2.1) hxy
    have hvc : x.vec = y.vec := congrArg (fun z => z.2.2) hxy
    have hmx : x ∈ xs := List.mem_of_getElem? hx
    have hmy : y ∈ ys := List.mem_of_getElem? hy
    have hrx := h.2 x hmx
    have hry := h'.2 y hmy
    have hvx := hv x hmx
    obtain ⟨b, o, rfl, hr⟩ := RdS.elem (g := HV.cells) (l := xs) (fun _ => rfl) h.1 hx rfl
    obtain ⟨b', o', rfl, hr'⟩ := RdS.elem (g := HV.cells) (l := ys) (fun _ => rfl) h'.1 hy rfl
    clear hx hy hmx hmy hxy he
    obtain ⟨xi, xd, xa, xc, xv⟩ := x
    obtain ⟨yi, yd, ya, yc, yv⟩ := y
    dsimp only at hid hds hvc hrx hry hvx
    subst hid hds hvc
    replace hr : RdC A b (o + k * 3) [.int .u64 xi, .int .u64 xd, .slice xa xv.length xc] := hr
    replace hr' : RdC A b' (o' + k * 3) [.int .u64 xi, .int .u64 xd, .slice ya xv.length yc] := hr'
    refine Q.r ?_; (repeat (intro b1; refine Q.r ?_))
    refine D.start [35] [35] [0, 1, 2, 3, 4, 5, 6, 7, 8, 9, 10, 11, 12, 13, 14, 15, 16, 17, 18, 19, 20, 21, 22, 23, 24, 25, 26, 27, 28, 29, 30, 31, 32, 33, 34, 35, 36, 37] _ [] rfl (by kernel_rfl) rfl (by kernel_rfl) NoPanic.no (Ent.refl _) ?_
    repeat (first | refine Q.dyn rfl rfl rfl ?_ | refine Q.dyl rfl rfl rfl ?_ | refine D.y rfl rfl rfl (by kernel_rfl) (by first | exact (Y.ldRj rfl (by first | assumption | exact RdC.sub (by assumption)) rfl) | exact Y.guard rfl (Y.ldRj rfl (by first | assumption | exact RdC.sub (by assumption)) rfl)) ?_ | refine D.endA ?_ | refine Q.dp rfl rfl rfl ?_ | refine Q.dy rfl rfl rfl ?_ | refine D.end_ ?_ | refine Q.endH ?_ | (refine D.e rfl rfl rfl ?_; (first | refine S.gskip1 rfl ?_ | refine S.gskip rfl ?_ | refine S.y (Y.gskipU rfl) ?_); refine opsS_nil ?_; refine N.tn ?_) | refine Q.dT rfl rfl rfl ?_ | refine Q.dF rfl rfl rfl ?_ | (refine D.e rfl rfl rfl ?_; (first | (refine GQ.a ?_; refine Q.al (fun b1 => ?_)) | (refine GQ.s ?_; refine Q.st ?_)); refine opsS_nil ?_; refine N.tn ?_))
    refine Q.dF rfl rfl rfl ?_ (by simp)
    repeat (first | refine Q.dyn rfl rfl rfl ?_ | refine Q.dyl rfl rfl rfl ?_ | refine D.y rfl rfl rfl (by kernel_rfl) (by first | exact (Y.ldRj rfl (by first | assumption | exact RdC.sub (by assumption)) rfl) | exact Y.guard rfl (Y.ldRj rfl (by first | assumption | exact RdC.sub (by assumption)) rfl)) ?_ | refine D.endA ?_ | refine Q.dp rfl rfl rfl ?_ | refine Q.dy rfl rfl rfl ?_ | refine D.end_ ?_ | refine Q.endH ?_ | (refine D.e rfl rfl rfl ?_; (first | refine S.gskip1 rfl ?_ | refine S.gskip rfl ?_ | refine S.y (Y.gskipU rfl) ?_); refine opsS_nil ?_; refine N.tn ?_) | refine Q.dT rfl rfl rfl ?_ | refine Q.dF rfl rfl rfl ?_ | (refine D.e rfl rfl rfl ?_; (first | (refine GQ.a ?_; refine Q.al (fun b1 => ?_)) | (refine GQ.s ?_; refine Q.st ?_)); refine opsS_nil ?_; refine N.tn ?_))
    refine Q.dF rfl rfl rfl ?_ (by simp)
    repeat (first | refine Q.dyn rfl rfl rfl ?_ | refine Q.dyl rfl rfl rfl ?_ | refine D.y rfl rfl rfl (by kernel_rfl) (by first | exact (Y.ldRj rfl (by first | assumption | exact RdC.sub (by assumption)) rfl) | exact Y.guard rfl (Y.ldRj rfl (by first | assumption | exact RdC.sub (by assumption)) rfl)) ?_ | refine D.endA ?_ | refine Q.dp rfl rfl rfl ?_ | refine Q.dy rfl rfl rfl ?_ | refine D.end_ ?_ | refine Q.endH ?_ | (refine D.e rfl rfl rfl ?_; (first | refine S.gskip1 rfl ?_ | refine S.gskip rfl ?_ | refine S.y (Y.gskipU rfl) ?_); refine opsS_nil ?_; refine N.tn ?_) | refine Q.dT rfl rfl rfl ?_ | refine Q.dF rfl rfl rfl ?_ | (refine D.e rfl rfl rfl ?_; (first | (refine GQ.a ?_; refine Q.al (fun b1 => ?_)) | (refine GQ.s ?_; refine Q.st ?_)); refine opsS_nil ?_; refine N.tn ?_))
    refine Q.dc rfl rfl rfl rfl ?_
    rw [List.append_nil]
    refine S.guard rfl ?_
    refine S.cr rfl (SameVec_spec xa xc xv ya yc xv _ hrx.sub hry.sub (by omega)) ?_
    rintro _ _ ⟨rfl, he⟩
    rw [he]
    clear he
    refine Q.r ?_; (repeat (intro b1; refine Q.r ?_))
    repeat (first | refine Q.dyn rfl rfl rfl ?_ | refine Q.dyl rfl rfl rfl ?_ | refine D.y rfl rfl rfl (by kernel_rfl) (by first | exact (Y.ldRj rfl (by first | assumption | exact RdC.sub (by assumption)) rfl) | exact Y.guard rfl (Y.ldRj rfl (by first | assumption | exact RdC.sub (by assumption)) rfl)) ?_ | refine D.endA ?_ | refine Q.dp rfl rfl rfl ?_ | refine Q.dy rfl rfl rfl ?_ | refine D.end_ ?_ | refine Q.endH ?_ | (refine D.e rfl rfl rfl ?_; (first | refine S.gskip1 rfl ?_ | refine S.gskip rfl ?_ | refine S.y (Y.gskipU rfl) ?_); refine opsS_nil ?_; refine N.tn ?_) | refine Q.dT rfl rfl rfl ?_ | refine Q.dF rfl rfl rfl ?_ | (refine D.e rfl rfl rfl ?_; (first | (refine GQ.a ?_; refine Q.al (fun b1 => ?_)) | (refine GQ.s ?_; refine Q.st ?_)); refine opsS_nil ?_; refine N.tn ?_))
    refine Q.r ?_; (repeat (intro b1; refine Q.r ?_))
    exact ⟨k + 1, ⟨rfl, rfl, rfl, rfl, trivial⟩, Ent.refl _, by omega, by omega⟩
  · have hke : k = xs.length := by omega
    subst hke
    refine Q.r ?_; (repeat (intro b1; refine Q.r ?_))
    exact N.r1 (RV.tmp rfl RV.nil) (Ent.refl _) ⟨rfl, rfl⟩
theorem okmap {α β : Type} {f : α → β} {xs ys : List α} (he : xs.map f = ys.map f) {k : Nat} {x y : α} (hx : xs[k]? = some x) (hy : ys[k]? = some y) : f x = f y := by
  have h1 : (xs.map f)[k]? = some (f x) := by simp [hx]
  have h2 : (ys.map f)[k]? = some (f y) := by simp [hy]
  rw [he, h2] at h1
  exact (Option.some.inj h1).symm
set_option maxHeartbeats 4000000 in
theorem Same12_spec (n m : NV) (A : List HP) (h : RdN A n) (h' : RdN A m) (hk : OkN n) (hk' : OkN m) (he : n.abs = m.abs) :
    CallsS Tryz.prog 36 [n.val, m.val] A (fun r L' => r = .bool true ∧ L' = A) := by
  obtain ⟨x0, x1, x2, x3, x4, x5, x6, x7, x8, x9, x10, x11, pa, pc, ps, oa, oc, os, va, vc, vs, ha, hc, hs⟩ := n
  obtain ⟨y0, y1, y2, y3, y4, y5, y6, y7, y8, y9, y10, y11, pa', pc', ps', oa', oc', os', va', vc', vs', ha', hc', hs'⟩ := m
  simp only [NA.mk.injEq] at he
  obtain ⟨rfl, rfl, rfl, rfl, rfl, rfl, rfl, rfl, rfl, rfl, rfl, rfl, rfl, ho, rfl, hh⟩ := he
  have p1 := hk.p
  dsimp only at p1
  refine CallsS.of_body Tryz.func36 rfl rfl rfl ?_
  refine Q.r ?_; (repeat (intro b1; refine Q.r ?_))
  rename_i b0
  refine swp_cutB (σ := Unit) (fun _ => [(2, .pointer (some ⟨b0, 0, none⟩)), (3, .pointer (some ⟨b1, 0, none⟩))])
    (fun _ => pt b1 (cl (NV.cells ⟨x0, x1, x2, x3, x4, x5, x6, x7, x8, x9, x10, x11, pa', pc', ps, oa', oc', os', va', vc', vs, ha', hc', hs'⟩) 36) :: pt b0 (cl (NV.cells ⟨x0, x1, x2, x3, x4, x5, x6, x7, x8, x9, x10, x11, pa, pc, ps, oa, oc, os, va, vc, vs, ha, hc, hs⟩) 36) :: A) (fun _ => True) ?_ ?_
  · refine swp_loop (σ := Nat) (fun k => [(2, .pointer (some ⟨b0, 0, none⟩)), (3, .pointer (some ⟨b1, 0, none⟩)), (99, .int .i64 ps.length), (100, .int .i64 k)])
      (fun _ => pt b1 (cl (NV.cells ⟨x0, x1, x2, x3, x4, x5, x6, x7, x8, x9, x10, x11, pa', pc', ps, oa', oc', os', va', vc', vs, ha', hc', hs'⟩) 36) :: pt b0 (cl (NV.cells ⟨x0, x1, x2, x3, x4, x5, x6, x7, x8, x9, x10, x11, pa, pc, ps, oa, oc, os, va, vc, vs, ha, hc, hs⟩) 36) :: A)
      (fun k => k ≤ ps.length) (fun k => ps.length - k) 0 ⟨rfl, rfl, rfl, rfl, trivial⟩ (Ent.refl _) (by omega) ?_
    intro k hk1
    by_cases hlt : k < ps.length
    · obtain ⟨p, hp⟩ := mem_get hlt
      have hp1 : RdS A pa ps.length 1 (ps.map I64) := h.p
      have hp2 : RdS A pa' ps.length 1 (ps.map I64) := h'.p
      obtain ⟨bp, op, hpa, hr⟩ := RdS.elem (g := fun z => [I64 z]) (fun _ => rfl) (by rw [flat_I64]; exact hp1) hp rfl
      obtain ⟨bq, oq, hqa, hr2⟩ := RdS.elem (g := fun z => [I64 z]) (fun _ => rfl) (by rw [flat_I64]; exact hp2) hp rfl
      clear hp1 hp2
      subst hpa hqa
      refine Q.r ?_; (repeat (intro b1; refine Q.r ?_))
      refine D.start [] [] [0, 1, 2, 3, 4, 5, 6, 7, 8, 9, 10] _ [] rfl (by kernel_rfl) rfl (by kernel_rfl) NoPanic.no (Ent.refl _) ?_
      repeat (first | refine Q.dyn rfl rfl rfl ?_ | refine Q.dyl rfl rfl rfl ?_ | refine D.y rfl rfl rfl (by kernel_rfl) (by first | exact (Y.ldRj rfl (by first | assumption | exact RdC.sub (by assumption)) rfl) | exact Y.guard rfl (Y.ldRj rfl (by first | assumption | exact RdC.sub (by assumption)) rfl)) ?_ | refine D.endA ?_ | refine Q.dp rfl rfl rfl ?_ | refine Q.dy rfl rfl rfl ?_ | refine D.end_ ?_ | refine Q.endH ?_ | (refine D.e rfl rfl rfl ?_; (first | refine S.gskip1 rfl ?_ | refine S.gskip rfl ?_ | refine S.y (Y.gskipU rfl) ?_); refine opsS_nil ?_; refine N.tn ?_) | refine Q.dT rfl rfl rfl ?_ | refine Q.dF rfl rfl rfl ?_ | (refine D.e rfl rfl rfl ?_; (first | (refine GQ.a ?_; refine Q.al (fun b1 => ?_)) | (refine GQ.s ?_; refine Q.st ?_)); refine opsS_nil ?_; refine N.tn ?_))
      refine Q.r ?_; (repeat (intro b1; refine Q.r ?_))
      exact ⟨k + 1, ⟨rfl, rfl, rfl, rfl, trivial⟩, Ent.refl _, by omega, by omega⟩
    · have hke : k = ps.length := by omega
      subst hke
      refine Q.r ?_; (repeat (intro b1; refine Q.r ?_))
      exact ⟨(), ⟨rfl, rfl, trivial⟩, Ent.refl _, trivial⟩
  · rintro _ _
    refine Q.r ?_; (repeat (intro b1; refine Q.r ?_))
    refine S.cr rfl (SameOps_spec oa oc os oa' oc' os' _ (RdO.sub h.o) (RdO.sub h'.o) hk.o hk.ov ho) ?_
    rintro _ _ ⟨rfl, rfl⟩
    refine Q.r ?_; (repeat (intro b1; refine Q.r ?_))
    refine S.cr rfl (SameVec_spec va vc vs va' vc' vs _ (RdS.sub h.v) (RdS.sub h'.v) (by have := hk.v; dsimp only at this; omega)) ?_
    rintro _ _ ⟨rfl, rfl⟩
    rw [decide_eq_true rfl]
    refine Q.r ?_; (repeat (intro b1; refine Q.r ?_))
    refine S.cr rfl (SameHitsN_spec ha hc hs ha' hc' hs' _ ⟨RdS.sub h.h, fun o ho => RdS.sub (h.hv o ho)⟩ ⟨RdS.sub h'.h, fun o ho => RdS.sub (h'.hv o ho)⟩ hk.h hk.hv hh) ?_
    rintro _ _ ⟨rfl, rfl⟩
    refine Q.r ?_; (repeat (intro b1; refine Q.r ?_))
    exact N.r1 (RV.tmp rfl RV.nil) (Ent.drop (Ent.drop (Ent.refl _))) ⟨rfl, rfl⟩
abbrev mcells (m : Int × NV) : List Value := I64 m.1 :: m.2.cells
end Go.Proofs.YtjidejcehmamkaaGreatDoor
namespace Go.SX
open Go
section
variable {P : Program} {n : Nat} {ops rest : List Oper} {cd : Code} {Q : Post} {f : Env} {L L0 L1 L2 : List HP} {d : Tmp} {ty : TypeId} {pos : String} {af : Array Edge} {A B C : HP} {g : FuncId} {xs : Array Operand} {ats : Array TypeId} {args : List Value} {R : Value → List HP → Prop}
theorem S.c1 [he : Enters P g] (hx : argsL f xs.toList = some args) (hc : CallsS P g args (A :: L0) R) [h1 : Pick A L L0] (hk : ∀ v L', R v L' → opsS P n ops rest Q (upd f d v) L') :
    opsS P n ops (⟨some d, .call ⟨.value (.func g), xs, ats⟩, ty, pos, af, none⟩ :: rest) Q f L := opsS_ent h1.ent (S.cr hx hc hk)
theorem S.c2 [he : Enters P g] (hx : argsL f xs.toList = some args) (hc : CallsS P g args (A :: B :: L1) R) [h1 : Pick A L L0] [h2 : Pick B L0 L1] (hk : ∀ v L', R v L' → opsS P n ops rest Q (upd f d v) L') :
    opsS P n ops (⟨some d, .call ⟨.value (.func g), xs, ats⟩, ty, pos, af, none⟩ :: rest) Q f L := opsS_ent (h1.ent.trans h2.ent.cons) (S.cr hx hc hk)
theorem S.c3 [he : Enters P g] (hx : argsL f xs.toList = some args) (hc : CallsS P g args (A :: B :: C :: L2) R) [h1 : Pick A L L0] [h2 : Pick B L0 L1] [h3 : Pick C L1 L2] (hk : ∀ v L', R v L' → opsS P n ops rest Q (upd f d v) L') :
    opsS P n ops (⟨some d, .call ⟨.value (.func g), xs, ats⟩, ty, pos, af, none⟩ :: rest) Q f L := opsS_ent (h1.ent.trans (h2.ent.trans h3.ent.cons).cons) (S.cr hx hc hk)
end
end Go.SX
