/- slices.AppendSeq, slices.Collect, maps.Keys at keys of type uint64, walked. Vectors, ops; slices.ContainsFunc at several types.  By a program (wip/gen/vec.py). Vectors, walked: Right, Clone, CutVec, SameVec. Arrays of numbers in an owned block. Shifts, bits, a string's byte. Chains: what they are; Len, Last, Search, after, At. Chains: after, At, copyOf, Put, New, List. Chains: copyOf, Put, New, List. The vault: what it is; holds, Check, copyOf. The scroll's writer: numbers, vectors, bytes. The vault: its state; holder, Blocked, open. The vault: copyOf, New, Lock. No condition. -/
import Derived.Sort.Defs
import Derived.Test.YtjidejcehmamkaaGreatDoorPk03
set_option linter.unusedVariables false
set_option linter.unusedSimpArgs false
set_option linter.unusedSectionVars false
namespace Go.Proofs.YtjidejcehmamkaaGreatDoor
open Go Go.SX
attribute [local irreducible] swp opsS thenS blockS retS CallsS St Ent YieldS anyS drawS
attribute [local irreducible] opsI
abbrev U64 : Int → Value := Value.int .u64
def apRec (fn : FuncId) (tmps : Array Value) (ps : Array Tmp) (assign body : Code) (D : Nat) (st : LoopState) (pe : Option Code) : Loop := { state := st, pending := pe, fn, tmps, params := ps, assign, body, defers := D }
def apJ (rec : Loop) (l D bs : Nat) (pre : List Int) : HP := exH fun x : Option Addr × Nat => allH [pt l (.loop rec), pt D (.deferred (some [])), pt bs (cl [.slice x.1 pre.length x.2] 132), slO 30 1 x.1 pre.length x.2 (pre.map U64)]
theorem apJ_shut {rec : Loop} {l D bs : Nat} {pre : List Int} {a : Option Addr} {c : Nat} {L : List HP} : Ent (pt l (.loop rec) :: pt D (.deferred (some [])) :: pt bs (cl [.slice a pre.length c] 132) :: slO 30 1 a pre.length c (pre.map U64) :: L) (apJ rec l D bs pre :: L) :=
  Ent.trans (Ent.shut_all (L := [_, _, _, _])) (Ent.shut_ex (P := fun x : Option Addr × Nat => allH [pt l (.loop rec), pt D (.deferred (some [])), pt bs (cl [.slice x.1 pre.length x.2] 132), slO 30 1 x.1 pre.length x.2 (pre.map U64)]) (a, c))
theorem apJ_open {rec : Loop} {l D bs : Nat} {pre : List Int} {w : World} {L : List HP} (H : St w (apJ rec l D bs pre :: L)) : ∃ a c, St w (pt l (.loop rec) :: pt D (.deferred (some [])) :: pt bs (cl [.slice a pre.length c] 132) :: slO 30 1 a pre.length c (pre.map U64) :: L) := by
  obtain ⟨x, H⟩ := St.open_ex H
  exact ⟨x.1, x.2, St.ent (Ent.open_all (L := [_, _, _, _])) H⟩
theorem St.obj {w : World} {l : Nat} {o o' : Obj} {L : List HP} (H : St w (pt l o :: L)) : St (w.putObj l o') (pt l o' :: L) := by
  have hl := St.pt_read H
  have hlt : l < w.heap.size := (Array.getElem?_eq_some_iff.1 hl).1
  exact St.pt_write H (World.putObj_heap_same hlt) (fun k hk => World.putObj_heap_other hk) rfl
set_option maxHeartbeats 2000000 in
theorem apRound {fn : FuncId} {tm : Array Value} {l D bs : Nat} {pre : List Int} {x : Int} {assign body : Code} (htm : tm.size = 13) (hbs : tm[2]? = some (.pointer (some ⟨bs, 0, none⟩))) (hN : pre.length < 17592186044416)
    (ha : assign = .region 2 ([⟨some 5, .assign (.tmp 7), 30, "iter.go:51", #[], none⟩] : List Oper).toArray false)
    (hb : ∃ l1 id, body = .block 1 (.region id (l1 : List Oper).toArray false) ∧ okOps 13 l1 = true ∧
      ∀ (v : Int) (a : Option Addr) (c k : Nat) (cs : List Value), k < 17592186044416 → opsI Tryz.prog 13 (some l) l1 l1 (thenS (fun f L => ∃ a' c', L = [pt bs (cl [.slice a' (k + 1) c'] 132), slO 30 1 a' (k + 1) c' (cs ++ [U64 v])]) (fun _ _ _ => False)) (updAll [(2, .pointer (some ⟨bs, 0, none⟩)), (5, U64 v)]) [pt bs (cl [.slice a k c] 132), slO 30 1 a k c cs]) :
    RoundS Tryz.prog l (U64 x) [apJ (apRec fn tm #[7] assign body D .ready none) l D bs pre] [apJ (apRec fn tm #[7] assign body D .ready none) l D bs (pre ++ [x])] := by
  intro F w t
  obtain ⟨a, c, t⟩ := apJ_open (L := F) (by simpa using t)
  have hl := St.pt_read t
  obtain ⟨l1, id, hbd, hok1, hb⟩ := hb
  refine ⟨fn, tm.setIfInBounds 7 (U64 x), _, _, by simpa [apRec] using run_yield (P := Tryz.prog) (args := #[U64 x]) hl rfl, roundIn_of_wpIn trivial ?_⟩
  have s0 : Sim 13 { tmps := tm.setIfInBounds 7 (U64 x), defers := [] } (updAll [(2, .pointer (some ⟨bs, 0, none⟩)), (7, U64 x)]) := by
    refine ⟨rfl, by simp [htm], fun i v e => ?_⟩
    simp only [updAll, upd, e0] at e
    by_cases h2 : i = 2
    · subst h2
      cases e
      rw [Array.getD_eq_getD_getElem?, Array.getElem?_setIfInBounds_ne (by omega), hbs]; rfl
    · by_cases h7 : i = 7
      · subst h7
        cases e
        simp [htm]
      · rw [beq_ne h2, beq_ne h7] at e; cases e
  have hwa : ∀ Q a w, (Code.region 2 ([⟨some 5, .assign (.tmp 7), 30, "iter.go:51", #[], none⟩] : List Oper).toArray false).wpIn (WF (some l)) 0 Tryz.prog Q a w → assign.wpIn (WF (some l)) 0 Tryz.prog Q a w := fun Q a w h => by rw [ha]; exact h
  refine hwa _ _ _ (wpIn_round (r := some l) (n := 13) (L := [pt l (.loop (apRec fn tm #[7] assign body D .ready none)), pt D (.deferred (some [])), pt bs (cl [.slice a pre.length c] 132), slO 30 1 a pre.length c (pre.map U64)]) (F := F) (K := fun f L => f 2 = some (.pointer (some ⟨bs, 0, none⟩)) ∧ f 5 = some (U64 x) ∧ L = [pt l (.loop (apRec fn tm #[7] assign body D .ready none)), pt D (.deferred (some [])), pt bs (cl [.slice a pre.length c] 132), slO 30 1 a pre.length c (pre.map U64)]) ?_ rfl s0 t ?_)
  · refine opsI_one (fun _ h => by cases h) rfl ?_
    repeat (first | (refine GQ.y ?_; refine Q.y ?_) | refine Q.go ?_ | (refine GQ.g ?_; refine Q.gq ?_) | (refine GQ.s ?_; refine Q.st ?_))
    exact opsI_nil (N.tn ⟨rfl, rfl, rfl⟩)
  rintro f L a1 w1 ⟨h2, h5, rfl⟩ s1 t1
  refine ⟨_, run_beginRound (St.pt_read t1) rfl, ?_⟩
  have t2 := St.obj (o' := .loop { (apRec fn tm #[7] assign body D .ready none) with state := .busy }) (L := [pt D (.deferred (some [])), pt bs (cl [.slice a pre.length c] 132), slO 30 1 a pre.length c (pre.map U64)] ++ F) t1
  have t3 : St _ ([pt bs (cl [.slice a pre.length c] 132), slO 30 1 a pre.length c (pre.map U64)] ++ (pt l (.loop { (apRec fn tm #[7] assign body D .ready none) with state := .busy }) :: pt D (.deferred (some [])) :: F)) :=
    St.rot2 t2
  have hwp : ∀ Q a w, (Code.block 1 (.region id l1.toArray false)).wpIn (WF (some l)) 0 Tryz.prog Q a w → body.wpIn (WF (some l)) 0 Tryz.prog Q a w := fun Q a w h => by rw [hbd]; exact h
  refine hwp _ _ _ (wpIn_block (wpIn_round (r := some l) (n := 13) (F := _) (hb x a c pre.length (pre.map U64) hN) hok1 (s1.weaken (updAll_le ⟨h2, h5, trivial⟩)) t3 ?_))
  rintro f L a2 w2 ⟨a', c', rfl⟩ s2 t4
  have t5 : St w2 (pt l (.loop { (apRec fn tm #[7] assign body D .ready none) with state := .busy }) :: pt D (.deferred (some [])) :: ([pt bs (cl [.slice a' (pre.length + 1) c'] 132), slO 30 1 a' (pre.length + 1) c' (pre.map U64 ++ [U64 x])] ++ F)) :=
    St.rot2 t4
  refine ⟨_, _, run_endRound none (St.pt_read t5), rfl, ?_⟩
  have t6 := St.obj (o' := .loop (apRec fn tm #[7] assign body D .ready none)) t5
  have e1 : pre.length + 1 = (pre ++ [x]).length := by simp
  have e2 : pre.map U64 ++ [U64 x] = (pre ++ [x]).map U64 := by simp
  rw [e1, e2] at t6
  have t7 := St.ent (apJ_shut (L := F)) t6
  simpa [apRec] using t7
set_option maxHeartbeats 2000000 in
theorem AppendSeq_spec (gf : FuncId) (lb : List Value) [he : Enters Tryz.prog gf] (Sp : List Int → Prop) (A A' : List HP) (hseq : SeqS Tryz.prog gf lb U64 17592186044416 Sp A A') :
    CallsS Tryz.prog 173 [.slice none 0 0, .func (.func gf) #[] lb.toArray] A (fun v L' => ∃ ks a c, Sp ks ∧ v = .slice a ks.length c ∧ L' = slO 30 1 a ks.length c (ks.map U64) :: A') := by
  refine CallsS.mk' fun F w t => ?_
  refine (callsIn_wide (n := 1)).1 (callsIn_of_wp_marks Tryz.func173 rfl trivial ?_)
  have s0 : Sim 13 { tmps := #[.slice none 0 0, .func (.func gf) #[] lb.toArray] ++ Array.replicate 11 undef, defers := [] } (argEnv [.slice none 0 0, .func (.func gf) #[] lb.toArray] 0) := by
    refine ⟨rfl, by simp, fun i v e => ?_⟩
    obtain ⟨_, h2⟩ := argEnv_at _ 0 i v e
    simp only [Nat.sub_zero] at h2
    have hi : i < 2 := (List.getElem?_eq_some_iff.1 h2).1
    match i, hi, h2 with
    | 0, _, h2 => simpa using h2
    | 1, _, h2 => simpa using h2
  refine wpIn_of_swp (n := 13) (F := F) (K := fun f L => ∃ bs, f 1 = some (.func (.func gf) #[] lb.toArray) ∧ f 2 = some (.pointer (some ⟨bs, 0, none⟩)) ∧ L = pt bs (cl [.slice none 0 0] 132) :: A) ?_ rfl s0 t ?_
  · refine Q.r ?_; (repeat (intro b1; refine Q.r ?_))
    exact ⟨_, rfl, rfl, rfl⟩
  rintro f L a1 w1 ⟨bs, h1, h2, rfl⟩ s1 t1
  refine wpIn_seq ?_
  refine wpIn_of_swp (n := 13) (F := F) (K := fun f L => f 6 = some (.func (.func gf) #[] lb.toArray) ∧ f 2 = some (.pointer (some ⟨bs, 0, none⟩)) ∧ L = pt bs (cl [.slice none 0 0] 132) :: A) (f := updAll [(1, .func (.func gf) #[] lb.toArray), (2, .pointer (some ⟨bs, 0, none⟩))]) ?_ rfl (s1.weaken (updAll_le ⟨h1, h2, trivial⟩)) t1 ?_
  · refine Q.r ?_; (repeat (intro b1; refine Q.r ?_))
    exact ⟨rfl, rfl, rfl⟩
  rintro f L a2 w2 ⟨h6, h2, rfl⟩ s2 t2
  obtain ⟨tm, htm⟩ : ∃ tm, tm = a2.tmps := ⟨_, rfl⟩
  have hsz : tm.size = 13 := by rw [htm]; exact s2.size
  have h2' : tm[2]? = some (.pointer (some ⟨bs, 0, none⟩)) := by
    have := s2.at_ 2 _ h2
    rw [← htm, Array.getD_eq_getD_getElem?] at this
    have hlt : 2 < tm.size := by omega
    rw [Array.getElem?_eq_getElem hlt] at this ⊢
    simpa using this
  have hev : a2.eval (.tmp 6) = .func (.func gf) #[] lb.toArray := s2.eval (x := .tmp 6) h6
  refine wpIn_block (wpIn_rangeF hev fun fn => ?_)
  have t3 := St.pt_new (w' := w2.alloc (.deferred (some []))) t2 rfl rfl
  generalize hr0 : ({ state := .ready, pending := none, fn, tmps := a2.tmps, params := #[7], assign := _, body := _, defers := w2.heap.size } : Loop) = rec
  have t4 := St.pt_new (w' := (w2.alloc (.deferred (some []))).alloc (.loop rec)) t3 rfl rfl
  obtain ⟨As, hA⟩ : ∃ A, A = rec.assign := ⟨_, rfl⟩
  obtain ⟨Bs, hB⟩ : ∃ B, B = rec.body := ⟨_, rfl⟩
  have hrec : rec = apRec fn tm #[7] As Bs w2.heap.size .ready none := by rw [hA, hB, htm, ← hr0]; rfl
  have hA' : As = .region 2 ([⟨some 5, .assign (.tmp 7), 30, "iter.go:51", #[], none⟩] : List Oper).toArray false := by rw [hA, ← hr0]
  have hB' : ∃ l1 id, Bs = .block 1 (.region id (l1 : List Oper).toArray false) ∧ okOps 13 l1 = true ∧
      ∀ (v : Int) (a : Option Addr) (c k : Nat) (cs : List Value), k < 17592186044416 → opsI Tryz.prog 13 (some (w2.heap.size + 1)) l1 l1 (thenS (fun f L => ∃ a' c', L = [pt bs (cl [.slice a' (k + 1) c'] 132), slO 30 1 a' (k + 1) c' (cs ++ [U64 v])]) (fun _ _ _ => False)) (updAll [(2, .pointer (some ⟨bs, 0, none⟩)), (5, U64 v)]) [pt bs (cl [.slice a k c] 132), slO 30 1 a k c cs] := by
    refine ⟨_, 3, by rw [hB, ← hr0], rfl, fun v a c k cs hk => ?_⟩
    refine opsI_one (fun _ h => by cases h) rfl ?_
    refine Q.r ?_; (repeat (intro b1; refine Q.r ?_))
    refine opsI_one (fun _ h => by cases h) rfl ?_
    refine Q.r ?_; (repeat (intro b1; refine Q.r ?_))
    refine opsI_one (fun _ h => by cases h) rfl ?_
    refine Q.r ?_; (repeat (intro b1; refine Q.r ?_))
    refine opsI_one (fun _ h => by cases h) rfl ?_
    refine S.app rfl rfl (SrcS.sl RdC.row (by rfl) (by rfl)) (by rfl) (by omega) (by omega) (fun a' c' => ?_)
    refine Q.r ?_; (repeat (intro b1; refine Q.r ?_))
    refine opsI_one (fun _ h => by cases h) rfl ?_
    refine Q.r ?_; (repeat (intro b1; refine Q.r ?_))
    exact opsI_ent (Ent.drop (Ent.refl _)) (opsI_nil (N.tn ⟨a', c', rfl⟩))
  clear hA hB
  subst hrec
  clear hr0
  have hcall := hseq (w2.heap.size + 1) (apJ (apRec fn tm #[7] As Bs w2.heap.size .ready none) (w2.heap.size + 1) w2.heap.size bs) (fun pre x hp => apRound hsz h2' hp hA' hB')
  have hsz1 : (w2.alloc (.deferred (some []))).heap.size = w2.heap.size + 1 := by simp
  rw [hsz1] at t4
  have t5 := St.ent (apJ_shut (pre := []) (L := A ++ F)) (St.ent (Ent.cons (Ent.cons (Ent.cons slO_nil))) t4)
  refine (CallsS.run hcall t5).mono ?_
  rintro e w3 ⟨v, L', rfl, t6, ks, hks, rfl⟩
  obtain ⟨a, c, t7⟩ := apJ_open (L := A' ++ F) t6
  refine ⟨v, _, rfl, run_endLoop (St.pt_read t7) (by simp [apRec]), ?_⟩
  have t8 := St.obj (o' := .loop { apRec fn tm #[7] As Bs w2.heap.size .ready none with state := .exhausted }) t7
  have t9 := t8.tail
  generalize w3.putObj (w2.heap.size + 1) (.loop { apRec fn tm #[7] As Bs w2.heap.size .ready none with state := .exhausted }) = w4 at t9
  have hD := St.pt_read t9
  have hcell := St.pt_read t9.tail
  simp only [Exit.inBlock, Exit.then]
  have hload : (Instr.loadAt 132 (.pointer (some ⟨bs, 0, none⟩))).run Tryz.prog w4 = .ok (.slice a ks.length c) w4 := run_loadVar1 (P := Tryz.prog) (b := bs) (o := 0) (by simp [World.cell?, hcell, cl])
  have hd0 : a2.tmps.getD 2 undef = .pointer (some ⟨bs, 0, none⟩) := s2.at_ 2 _ h2
  have hd1 : a2.tmps.size = 13 := s2.size
  have hd2 : a2.defers = [] := s2.defers
  refine wpIn_seq (wpIn_region_lit ?_)
  refine wpListIn_plain rfl fun K hK => ⟨fun _ _ => trivial, ?_⟩
  rw [Oper.semAt_eq _ _ _ (fun _ h => by cases h)]
  simp only [execOp, Act.eval, hd0, Sem.run_bind, hload, Result.andThen_ok, Sem.run_pure]
  refine hK _ _ (wpListIn_plain rfl fun K' hK' => ⟨fun _ _ => trivial, ?_⟩)
  rw [Oper.semAt_eq _ _ _ (fun _ h => by cases h)]
  simp only [execOp, Act.eval, Sem.run_pure]
  refine hK' _ _ (wpListIn_nil (wpIn_ret ?_))
  refine ⟨by simp, .inl ⟨_, _, rfl, run_takeDeferred hD, ?_⟩⟩
  rw [hd2]
  refine ⟨_, results_tmp rfl _ _ _, _, slO 30 1 a ks.length c (ks.map U64) :: A', ?_, (St.obj (o' := .deferred none) t9).tail.tail, ks, a, c, hks, rfl, rfl⟩
  simp [Act.put, hd1]
theorem Collect_spec (gf : FuncId) (lb : List Value) [he : Enters Tryz.prog gf] (Sp : List Int → Prop) (A A' : List HP) (hseq : SeqS Tryz.prog gf lb U64 17592186044416 Sp A A') :
    CallsS Tryz.prog 145 [.func (.func gf) #[] lb.toArray] A (fun v L' => ∃ ks a c, Sp ks ∧ v = .slice a ks.length c ∧ L' = slO 30 1 a ks.length c (ks.map U64) :: A') := by
  refine CallsS.of_body Tryz.func145 rfl rfl rfl ?_
  refine Q.r ?_; (repeat (intro b1; refine Q.r ?_))
  refine S.cr rfl (AppendSeq_spec gf lb Sp A A' hseq) ?_
  rintro _ _ ⟨ks, a, c, hks, rfl, rfl⟩
  refine Q.r ?_; (repeat (intro b1; refine Q.r ?_))
  exact N.r1 (RV.tmp rfl RV.nil) (Ent.refl _) ⟨ks, a, c, hks, rfl, rfl⟩
end Go.Proofs.YtjidejcehmamkaaGreatDoor
namespace Go.Proofs.YtjidejcehmamkaaGreatDoor
open Go Go.SX
attribute [local irreducible] swp opsS thenS blockS retS CallsS St Ent YieldS anyS drawS
abbrev I32 : Int → Value := Value.int .i32
abbrev cI (z : Int) : List Value := [I32 z]
abbrev cU (z : Int) : List Value := [U64 z]
structure OV where
  id : Int
  a : Option Addr
  c : Nat
  vec : List Int
abbrev OV.cells (o : OV) : List Value := [.int .u64 o.id, .slice o.a o.vec.length o.c]
abbrev OV.val (o : OV) : Value := .agg #[.int .u64 o.id, .slice o.a o.vec.length o.c]
abbrev OV.abs (o : OV) : Int × List Int := (o.id, o.vec)
theorem flat_I (xs : List Int) : xs.flatMap cI = xs.map I32 := by induction xs with
  | nil => rfl
  | cons x xs ih => rw [List.flatMap_cons, ih]; rfl
theorem flat_U (xs : List Int) : xs.flatMap cU = xs.map U64 := by induction xs with
  | nil => rfl
  | cons x xs ih => rw [List.flatMap_cons, ih]; rfl
theorem I_one (xs : List Int) : (xs.map I32).all (·.oneCell') = true := by simp [Value.oneCell']
theorem OV_one (xs : List OV) : (xs.flatMap OV.cells).all (·.oneCell') = true := by simp [Value.oneCell']
theorem IdxI_spec (f : FuncId) (fs cs : List Value) [he : Enters Tryz.prog f] (p : Int → Bool) (a : Option Addr) (c : Nat) (xs : List Int) (A : List HP) (h : RdS A a xs.length 1 (xs.flatMap cI)) (hn : xs.length ≤ 4611686018427387904)
    (hf : ∀ x ∈ xs, CallsS Tryz.prog f (fs ++ [I32 x] ++ cs) A (fun v L' => v = .bool (p x) ∧ L' = A)) :
    CallsS Tryz.prog 182 [.slice a xs.length c, .func (.func f) fs.toArray cs.toArray] A (fun v L' => (∃ i : Int, v = .int .i64 i ∧ decide (0 ≤ i) = xs.any p) ∧ L' = A) := by
  refine CallsS.of_body Tryz.func182 rfl rfl rfl ?_
  refine Q.r ?_; (repeat (intro b1; refine Q.r ?_))
  refine swp_loop (σ := Nat) (fun k => [(0, .slice a xs.length c), (1, .func (.func f) fs.toArray cs.toArray), (7, .int .i64 xs.length), (8, .int .i64 k)]) (fun _ => A)
    (fun k => k ≤ xs.length ∧ (xs.take k).any p = false) (fun k => xs.length - k) 0 ⟨rfl, rfl, rfl, rfl, trivial⟩ (Ent.refl _) ⟨by omega, by simp⟩ ?_
  rintro k ⟨hk, hany⟩
  by_cases hlt : k < xs.length
  · obtain ⟨x, hx⟩ := mem_get hlt
    obtain ⟨b, o, rfl, hr⟩ := RdS.elem (g := cI) (fun _ => rfl) h hx rfl
    have hmx : x ∈ xs := List.mem_of_getElem? hx
    refine Q.r ?_; (repeat (intro b1; refine Q.r ?_))
    refine S.crF (fs := fs) (cs := cs) rfl rfl (hf x hmx) ?_
    rintro _ _ ⟨rfl, rfl⟩
    cases hp : p x with
    | true =>
      refine Q.r ?_; (repeat (intro b1; refine Q.r ?_))
      exact N.r1 (RV.tmp rfl RV.nil) (Ent.refl _) ⟨⟨_, rfl, by rw [show xs.any p = true from List.any_eq_true.2 ⟨x, hmx, hp⟩]; simp⟩, rfl⟩
    | false =>
      refine Q.r ?_; (repeat (intro b1; refine Q.r ?_))
      refine ⟨k + 1, ⟨rfl, rfl, rfl, rfl, trivial⟩, Ent.refl _, ⟨by omega, ?_⟩, by omega⟩
      rw [take_snoc hx, List.any_append, hany] <;> simp [hp]
  · have hke : k = xs.length := by omega
    subst hke
    rw [List.take_length] at hany
    refine Q.r ?_; (repeat (intro b1; refine Q.r ?_))
    exact N.r1 (RV.tmp rfl RV.nil) (Ent.refl _) ⟨⟨_, rfl, by rw [hany] <;> rfl⟩, rfl⟩
theorem HasI_spec (f : FuncId) (fs cs : List Value) [he : Enters Tryz.prog f] (p : Int → Bool) (a : Option Addr) (c : Nat) (xs : List Int) (A : List HP) (h : RdS A a xs.length 1 (xs.flatMap cI)) (hn : xs.length ≤ 4611686018427387904)
    (hf : ∀ x ∈ xs, CallsS Tryz.prog f (fs ++ [I32 x] ++ cs) A (fun v L' => v = .bool (p x) ∧ L' = A)) :
    CallsS Tryz.prog 167 [.slice a xs.length c, .func (.func f) fs.toArray cs.toArray] A (fun v L' => v = .bool (xs.any p) ∧ L' = A) := by
  refine CallsS.of_body Tryz.func167 rfl rfl rfl ?_
  refine Q.r ?_; (repeat (intro b1; refine Q.r ?_))
  refine S.cr rfl (IdxI_spec f fs cs p a c xs A h hn hf) ?_
  rintro _ _ ⟨⟨i, rfl, hi⟩, rfl⟩
  refine Q.r ?_; (repeat (intro b1; refine Q.r ?_))
  exact N.r1 (RV.tmp rfl RV.nil) (Ent.refl _) ⟨by rw [← hi], rfl⟩
theorem IdxO_spec (f : FuncId) (fs cs : List Value) [he : Enters Tryz.prog f] (p : OV → Bool) (a : Option Addr) (c : Nat) (xs : List OV) (A : List HP) (h : RdS A a xs.length 2 (xs.flatMap OV.cells)) (hn : xs.length ≤ 4611686018427387904)
    (hf : ∀ x ∈ xs, CallsS Tryz.prog f (fs ++ [OV.val x] ++ cs) A (fun v L' => v = .bool (p x) ∧ L' = A)) :
    CallsS Tryz.prog 176 [.slice a xs.length c, .func (.func f) fs.toArray cs.toArray] A (fun v L' => (∃ i : Int, v = .int .i64 i ∧ decide (0 ≤ i) = xs.any p) ∧ L' = A) := by
  refine CallsS.of_body Tryz.func176 rfl rfl rfl ?_
  refine Q.r ?_; (repeat (intro b1; refine Q.r ?_))
  refine swp_loop (σ := Nat) (fun k => [(0, .slice a xs.length c), (1, .func (.func f) fs.toArray cs.toArray), (7, .int .i64 xs.length), (8, .int .i64 k)]) (fun _ => A)
    (fun k => k ≤ xs.length ∧ (xs.take k).any p = false) (fun k => xs.length - k) 0 ⟨rfl, rfl, rfl, rfl, trivial⟩ (Ent.refl _) ⟨by omega, by simp⟩ ?_
  rintro k ⟨hk, hany⟩
  by_cases hlt : k < xs.length
  · obtain ⟨x, hx⟩ := mem_get hlt
    obtain ⟨b, o, rfl, hr⟩ := RdS.elem (g := OV.cells) (fun _ => rfl) h hx rfl
    have hmx : x ∈ xs := List.mem_of_getElem? hx
    refine Q.r ?_; (repeat (intro b1; refine Q.r ?_))
    refine S.crF (fs := fs) (cs := cs) rfl rfl (hf x hmx) ?_
    rintro _ _ ⟨rfl, rfl⟩
    cases hp : p x with
    | true =>
      refine Q.r ?_; (repeat (intro b1; refine Q.r ?_))
      exact N.r1 (RV.tmp rfl RV.nil) (Ent.refl _) ⟨⟨_, rfl, by rw [show xs.any p = true from List.any_eq_true.2 ⟨x, hmx, hp⟩]; simp⟩, rfl⟩
    | false =>
      refine Q.r ?_; (repeat (intro b1; refine Q.r ?_))
      refine ⟨k + 1, ⟨rfl, rfl, rfl, rfl, trivial⟩, Ent.refl _, ⟨by omega, ?_⟩, by omega⟩
      rw [take_snoc hx, List.any_append, hany] <;> simp [hp]
  · have hke : k = xs.length := by omega
    subst hke
    rw [List.take_length] at hany
    refine Q.r ?_; (repeat (intro b1; refine Q.r ?_))
    exact N.r1 (RV.tmp rfl RV.nil) (Ent.refl _) ⟨⟨_, rfl, by rw [hany] <;> rfl⟩, rfl⟩
theorem HasO_spec (f : FuncId) (fs cs : List Value) [he : Enters Tryz.prog f] (p : OV → Bool) (a : Option Addr) (c : Nat) (xs : List OV) (A : List HP) (h : RdS A a xs.length 2 (xs.flatMap OV.cells)) (hn : xs.length ≤ 4611686018427387904)
    (hf : ∀ x ∈ xs, CallsS Tryz.prog f (fs ++ [OV.val x] ++ cs) A (fun v L' => v = .bool (p x) ∧ L' = A)) :
    CallsS Tryz.prog 151 [.slice a xs.length c, .func (.func f) fs.toArray cs.toArray] A (fun v L' => v = .bool (xs.any p) ∧ L' = A) := by
  refine CallsS.of_body Tryz.func151 rfl rfl rfl ?_
  refine Q.r ?_; (repeat (intro b1; refine Q.r ?_))
  refine S.cr rfl (IdxO_spec f fs cs p a c xs A h hn hf) ?_
  rintro _ _ ⟨⟨i, rfl, hi⟩, rfl⟩
  refine Q.r ?_; (repeat (intro b1; refine Q.r ?_))
  exact N.r1 (RV.tmp rfl RV.nil) (Ent.refl _) ⟨by rw [← hi], rfl⟩
end Go.Proofs.YtjidejcehmamkaaGreatDoor
namespace Go.Proofs.YtjidejcehmamkaaGreatDoor
open Go Go.SX
attribute [local irreducible] swp opsS thenS blockS retS CallsS St Ent YieldS anyS drawS
def badC (z : Int) : Bool := decide (z < -268435456) || decide (268435456 < z)
def rightV (xs : List Int) : Bool := decide (0 < xs.length) && decide (xs.length ≤ 8) && !xs.any badC
instance : Enters Tryz.prog 168 := en168
theorem Right1_spec (z : Int) (L : List HP) : CallsS Tryz.prog 168 [I32 z] L (fun v L' => v = .bool (badC z) ∧ L' = L) := by
  refine CallsS.of_body Tryz.func168 rfl rfl rfl ?_
  by_cases h : z < -268435456
  · refine Q.r ?_; (repeat (intro b1; refine Q.r ?_))
    exact N.r1 (RV.tmp rfl RV.nil) (Ent.refl _) ⟨by simp [badC, h], rfl⟩
  · refine Q.r ?_; (repeat (intro b1; refine Q.r ?_))
    exact N.r1 (RV.tmp rfl RV.nil) (Ent.refl _) ⟨by simp [badC, h], rfl⟩
theorem Right_spec (a : Option Addr) (c : Nat) (xs : List Int) (A : List HP) (h : RdS A a xs.length 1 (xs.map I32)) (hn : xs.length ≤ 4611686018427387904) :
    CallsS Tryz.prog 133 [.slice a xs.length c] A (fun v L' => v = .bool (rightV xs) ∧ L' = A) := by
  refine CallsS.of_body Tryz.func133 rfl rfl rfl ?_
  unfold rightV
  by_cases h0 : 0 < xs.length
  · by_cases h8 : xs.length ≤ 8
    · refine Q.r ?_; (repeat (intro b1; refine Q.r ?_))
      refine S.cr rfl (HasI_spec 168 [] [] badC a c xs A (by rw [flat_I]; exact h) hn (fun x _ => Right1_spec x A)) ?_
      rintro _ _ ⟨rfl, rfl⟩
      refine Q.r ?_; (repeat (intro b1; refine Q.r ?_))
      exact N.r1 (RV.tmp rfl RV.nil) (Ent.refl _) ⟨by simp [h0, h8], rfl⟩
    · refine Q.r ?_; (repeat (intro b1; refine Q.r ?_))
      exact N.r1 (RV.tmp rfl RV.nil) (Ent.refl _) ⟨by simp [h0, h8], rfl⟩
  · refine Q.r ?_; (repeat (intro b1; refine Q.r ?_))
    exact N.r1 (RV.tmp rfl RV.nil) (Ent.refl _) ⟨by simp [h0], rfl⟩
theorem CloneI_spec (a : Option Addr) (c : Nat) (xs : List Int) (A : List HP) (h : RdS A a xs.length 1 (xs.map I32)) (hn : xs.length ≤ 1000000) :
    CallsS Tryz.prog 148 [.slice a xs.length c] A (fun v L' => ∃ a' c', v = .slice a' xs.length c' ∧ L' = slO 21 1 a' xs.length c' (xs.map I32) :: A) := by
  refine CallsS.of_body Tryz.func148 rfl rfl rfl ?_
  cases a with
  | none =>
    have hx : xs = [] := by
      rcases h.2 with h0 | ⟨_, _, h0, _⟩
      · exact List.eq_nil_of_length_eq_zero h0
      · cases h0
    subst hx
    refine Q.r ?_; (repeat (intro b1; refine Q.r ?_))
    exact N.r1 (RV.tmp rfl RV.nil) slO_nil ⟨none, 0, rfl, rfl⟩
  | some ad =>
    refine Q.r ?_; (repeat (intro b1; refine Q.r ?_))
    refine opsS_ent (slO_fold (sz := 1) (m := 0) rfl) ?_
    refine S.app0 rfl rfl rfl (SrcS.rd h.sub (I_one _)) (by rfl) (by omega) (by omega) (fun a5 c5 => ?_)
    refine Q.r ?_; (repeat (intro b1; refine Q.r ?_))
    exact N.r1 (RV.tmp rfl RV.nil) (Ent.refl _) ⟨a5, c5, rfl, rfl⟩
theorem CutVec_spec (a : Option Addr) (c k : Nat) (xs : List Int) (A : List HP) (h : RdS A a xs.length 1 (xs.map I32)) (hc : xs.length ≤ c) (hk : k ≤ 1000000) :
    CallsS Tryz.prog 39 [.slice a xs.length c, .int .i64 k] A (fun v L' => ∃ b c', v = .slice b (xs.take k).length c' ∧ L' = slO 21 1 b (xs.take k).length c' ((xs.take k).map I32) :: A) := by
  refine CallsS.of_body Tryz.func39 rfl rfl rfl ?_
  have hl : (xs.take k).length = min k xs.length := List.length_take ..
  have hr : RdS A a (xs.take k).length 1 ((xs.take k).map I32) := by
    have := h.take (k := min k xs.length) (by omega)
    rw [hl]
    rw [Nat.mul_one, ← List.map_take] at this
    rwa [← List.take_eq_take_min] at this
  refine Q.r ?_; (repeat (intro b1; refine Q.r ?_))
  refine opsS_ent (slO_fold (sz := 1) (m := 0) rfl) ?_
  refine S.y (Y.slT (h := (xs.take k).length) rfl rfl (by rw [hl]; omega) (by omega)) ?_
  refine S.app0 rfl rfl rfl (SrcS.rd hr.sub (I_one _)) (by rfl) (by omega) (by omega) (fun a5 c5 => ?_)
  refine Q.r ?_; (repeat (intro b1; refine Q.r ?_))
  exact N.r1 (RV.tmp rfl RV.nil) (Ent.refl _) ⟨a5, c5, rfl, rfl⟩
theorem SameVec_spec (a : Option Addr) (c : Nat) (xs : List Int) (a' : Option Addr) (c' : Nat) (ys : List Int) (A : List HP) (h : RdS A a xs.length 1 (xs.map I32)) (h' : RdS A a' ys.length 1 (ys.map I32)) (hn : xs.length ≤ 4611686018427387904) :
    CallsS Tryz.prog 78 [.slice a xs.length c, .slice a' ys.length c'] A (fun v L' => v = .bool (decide (xs = ys)) ∧ L' = A) := by
  refine CallsS.of_body Tryz.func78 rfl rfl rfl ?_
  by_cases hl : xs.length = ys.length
  · refine Q.r ?_; (repeat (intro b1; refine Q.r ?_))
    refine swp_loop (σ := Nat) (fun k => [(0, .slice a xs.length c), (1, .slice a' ys.length c'), (12, .int .i64 xs.length), (13, .int .i64 k)]) (fun _ => A)
      (fun k => k ≤ xs.length ∧ xs.take k = ys.take k) (fun k => xs.length - k) 0 ⟨rfl, rfl, rfl, rfl, trivial⟩ (Ent.refl _) ⟨by omega, by simp⟩ ?_
    rintro k ⟨hk, he⟩
    by_cases hlt : k < xs.length
    · obtain ⟨x, hx⟩ := mem_get hlt
      obtain ⟨y, hy⟩ := mem_get (l := ys) (k := k) (by omega)
      obtain ⟨b, o, rfl, hr⟩ := RdS.elem (g := cI) (l := xs) (fun _ => rfl) (by rw [flat_I]; exact h) hx rfl
      obtain ⟨b', o', rfl, hr'⟩ := RdS.elem (g := cI) (l := ys) (fun _ => rfl) (by rw [flat_I]; exact h') hy rfl
      by_cases hxy : x = y
      · refine Q.r ?_; (repeat (intro b1; refine Q.r ?_))
        refine D.start [] [] [0, 1, 2, 3, 4, 5, 6, 7, 8] _ [] rfl (by kernel_rfl) rfl (by kernel_rfl) NoPanic.no (Ent.refl _) ?_
        refine Q.rd ?_; (repeat (intro b1; refine Q.rd ?_))
        refine Q.r ?_; (repeat (intro b1; refine Q.r ?_))
        exact ⟨k + 1, ⟨rfl, rfl, rfl, rfl, trivial⟩, Ent.refl _, ⟨by omega, by rw [take_snoc hx, take_snoc hy, he, hxy]⟩, by omega⟩
      · refine Q.r ?_; (repeat (intro b1; refine Q.r ?_))
        refine D.start [] [] [0, 1, 2, 3, 4, 5, 6, 7, 8] _ [] rfl (by kernel_rfl) rfl (by kernel_rfl) NoPanic.no (Ent.refl _) ?_
        refine Q.rd ?_; (repeat (intro b1; refine Q.rd ?_))
        refine Q.r ?_; (repeat (intro b1; refine Q.r ?_))
        exact N.r1 (RV.tmp rfl RV.nil) (Ent.refl _) ⟨by rw [decide_eq_false]; exact fun e => hxy (by rw [e] at hx; rw [hx] at hy; exact Option.some.inj hy), rfl⟩
    · have hke : k = xs.length := by omega
      subst hke
      rw [List.take_length, hl, List.take_length] at he
      refine Q.r ?_; (repeat (intro b1; refine Q.r ?_))
      exact N.r1 (RV.tmp rfl RV.nil) (Ent.refl _) ⟨by rw [decide_eq_true he], rfl⟩
  · refine Q.r ?_; (repeat (intro b1; refine Q.r ?_))
    exact N.r1 (RV.tmp rfl RV.nil) (Ent.refl _) ⟨by rw [decide_eq_false]; exact fun e => hl (by rw [e]), rfl⟩
end Go.Proofs.YtjidejcehmamkaaGreatDoor
namespace Go.SX
open Go
def ar (k : IntKind) (d : Array Int) (rest : List Value) : List Value := d.toList.map (Value.int k) ++ rest
theorem ar_len {k : IntKind} {d : Array Int} {rest : List Value} : (ar k d rest).length = d.size + rest.length := by simp [ar]
theorem ar_get {k : IntKind} {d : Array Int} {rest : List Value} {i : Nat} (h : i < d.size) : (ar k d rest)[i]? = some (.int k d[i]!) := by
  unfold ar
  rw [List.getElem?_append_left (by simpa using h)]
  simp [h]
theorem ar_set {k : IntKind} {d : Array Int} {rest : List Value} {i : Nat} {v : Int} (h : i < d.size) : (ar k d rest).set i (.int k v) = ar k (d.setIfInBounds i v) rest := by
  unfold ar
  rw [List.set_append_left _ _ (by simpa using h)]
  simp
section
variable {P : Program} {n : Nat} {ops rest : List Oper} {Q : Post} {f : Env} {A L : List HP} {d : Tmp} {ty : TypeId} {pos : String} {af : Array Edge}
theorem Y.addN {x y : Operand} {t t' : TypeId} {a b : Nat} (hx : ev f x = some (.int .i64 (Int.ofNat a))) (hy : ev f y = some (.int .i64 (Int.ofNat b))) (h : a + b ≤ 9223372036854775807) : YieldS P n ops ⟨some d, .binOp .add t x y t', ty, pos, af, none⟩ f A (.int .i64 ((a + b : Nat) : Int)) :=
  Y.addi hx hy rfl (by omega) (by omega)
theorem Y.subN {x y : Operand} {t t' : TypeId} {a b : Nat} (hx : ev f x = some (.int .i64 (Int.ofNat a))) (hy : ev f y = some (.int .i64 (Int.ofNat b))) (h : b ≤ a ∧ a ≤ 9223372036854775807) : YieldS P n ops ⟨some d, .binOp .sub t x y t', ty, pos, af, none⟩ f A (.int .i64 ((a - b : Nat) : Int)) :=
  Y.subi hx hy (by have := h.1; show (a : Int) - (b : Int) = _; omega) (by omega) (by omega)
theorem Y.mulN {x y : Operand} {t t' : TypeId} {a b : Nat} (hx : ev f x = some (.int .i64 (Int.ofNat a))) (hy : ev f y = some (.int .i64 (Int.ofNat b))) (h : a * b ≤ 9223372036854775807) : YieldS P n ops ⟨some d, .binOp .mul t x y t', ty, pos, af, none⟩ f A (.int .i64 ((a * b : Nat) : Int)) := by
  have := Y.mul (P := P) (n := n) (ops := ops) (A := A) (d := d) (ty := ty) (pos := pos) (af := af) (t := t) (t' := t') hx hy
  have e : (Int.ofNat a) * (Int.ofNat b) = ((a * b : Nat) : Int) := rfl
  rwa [e, wrap_i64 (by omega) (by omega)] at this
theorem Y.quoN {x y : Operand} {t t' : TypeId} {a b : Nat} (hx : ev f x = some (.int .i64 (Int.ofNat a))) (hy : ev f y = some (.int .i64 (Int.ofNat b))) (h : 0 < b ∧ a ≤ 9223372036854775807) : YieldS P n ops ⟨some d, .binOp .quo t x y t', ty, pos, af, none⟩ f A (.int .i64 ((a / b : Nat) : Int)) := by
  have := Y.quo (P := P) (n := n) (ops := ops) (A := A) (d := d) (ty := ty) (pos := pos) (af := af) (t := t) (t' := t') hx hy (by have := h.1; show ¬ (b : Int) = 0; omega)
  have e : (Int.ofNat a).tdiv (Int.ofNat b) = ((a / b : Nat) : Int) := rfl
  have h2 : a / b ≤ a := Nat.div_le_self ..
  have h3 := h.2
  rwa [e, wrap_i64 (by generalize a / b = q at *; omega) (by generalize a / b = q at *; omega)] at this
theorem Y.addC {x y : Operand} {t t' : TypeId} {a b : Nat} (hx : ev f x = some (.int .i64 (Int.ofNat a))) (hy : ev f y = some (.int .i64 (@OfNat.ofNat Int b instOfNat))) (h : a + (@OfNat.ofNat Nat b (instOfNatNat b)) ≤ 9223372036854775807) : YieldS P n ops ⟨some d, .binOp .add t x y t', ty, pos, af, none⟩ f A (.int .i64 ((a + (@OfNat.ofNat Nat b (instOfNatNat b)) : Nat) : Int)) := Y.addN (b := b) hx hy h
theorem Y.subC {x y : Operand} {t t' : TypeId} {a b : Nat} (hx : ev f x = some (.int .i64 (Int.ofNat a))) (hy : ev f y = some (.int .i64 (@OfNat.ofNat Int b instOfNat))) (h : (@OfNat.ofNat Nat b (instOfNatNat b)) ≤ a ∧ a ≤ 9223372036854775807) : YieldS P n ops ⟨some d, .binOp .sub t x y t', ty, pos, af, none⟩ f A (.int .i64 ((a - (@OfNat.ofNat Nat b (instOfNatNat b)) : Nat) : Int)) := Y.subN (b := b) hx hy h
theorem Y.mulC {x y : Operand} {t t' : TypeId} {a b : Nat} (hx : ev f x = some (.int .i64 (Int.ofNat a))) (hy : ev f y = some (.int .i64 (@OfNat.ofNat Int b instOfNat))) (h : a * (@OfNat.ofNat Nat b (instOfNatNat b)) ≤ 9223372036854775807) : YieldS P n ops ⟨some d, .binOp .mul t x y t', ty, pos, af, none⟩ f A (.int .i64 ((a * (@OfNat.ofNat Nat b (instOfNatNat b)) : Nat) : Int)) := Y.mulN (b := b) hx hy h
theorem Y.mulD {x y : Operand} {t t' : TypeId} {a b : Nat} (hx : ev f x = some (.int .i64 (@OfNat.ofNat Int b instOfNat))) (hy : ev f y = some (.int .i64 (Int.ofNat a))) (h : (@OfNat.ofNat Nat b (instOfNatNat b)) * a ≤ 9223372036854775807) : YieldS P n ops ⟨some d, .binOp .mul t x y t', ty, pos, af, none⟩ f A (.int .i64 (((@OfNat.ofNat Nat b (instOfNatNat b)) * a : Nat) : Int)) := Y.mulN (a := b) (b := a) hx hy h
theorem Y.quoC {x y : Operand} {t t' : TypeId} {a b : Nat} (hx : ev f x = some (.int .i64 (Int.ofNat a))) (hy : ev f y = some (.int .i64 (@OfNat.ofNat Int b instOfNat))) (h : 0 < (@OfNat.ofNat Nat b (instOfNatNat b)) ∧ a ≤ 9223372036854775807) : YieldS P n ops ⟨some d, .binOp .quo t x y t', ty, pos, af, none⟩ f A (.int .i64 ((a / (@OfNat.ofNat Nat b (instOfNatNat b)) : Nat) : Int)) := Y.quoN (b := b) hx hy h
theorem Y.iaN {x y : Operand} {t e : TypeId} {b o m c sz bts k : Nat} {ag : Bool} {zs : List Value} {kk : IntKind} [h : SlTy P t e] [h2 : Ty P e ag sz zs bts] (hx : ev f x = some (.slice (some ⟨b, o, none⟩) m c)) (hy : ev f y = some (.int kk (Int.ofNat k))) (h1 : k < m) :
    YieldS P n ops ⟨some d, .indexAddr t x y, ty, pos, af, none⟩ f A (.pointer (some ⟨b, o + k * sz, none⟩)) := Y.ia hx hy rfl h1
theorem Y.ldI {x : Operand} {t t0 sz bts : Nat} {zs : List Value} {b z : Nat} {k : IntKind} {dd : Array Int} {rs : List Value} [h : Ty P t false sz zs bts] [hb : FindB b A (cl (ar k dd rs) t0)] (hx : ev f x = some (.pointer (some ⟨b, 0 + z * 1, none⟩))) (hz : z < dd.size) :
    YieldS P n ops ⟨some d, .load t x, ty, pos, af, none⟩ f A (.int k dd[z]!) := Y.ld (h := h) (hb := hb) hx (by rw [Nat.zero_add, Nat.mul_one]; exact ar_get hz)
theorem S.stI {x y : Operand} {t t0 bts : Nat} {ag : Bool} {zs : List Value} {b z : Nat} {v : Int} {k : IntKind} {dd : Array Int} {rs : List Value} {L' : Obj → List HP} [h : Ty P t ag 1 zs bts] [hb : UpdB b L (cl (ar k dd rs) t0) L']
    (hx : ev f x = some (.pointer (some ⟨b, 0 + z * 1, none⟩))) (hy : ev f y = some (.int k v)) (hz : z < dd.size)
    (hk : opsS P n ops rest Q f (L' (cl (ar k (dd.setIfInBounds z v) rs) t0))) : opsS P n ops (⟨none, .store t x y, ty, pos, af, none⟩ :: rest) Q f L :=
  S.st1 (h := h) (hb := hb) hx hy rfl (Nat.ble_eq_true_of_le (by rw [ar_len]; omega)) (by rw [Nat.zero_add, Nat.mul_one]; exact ar_set hz) hk
end
theorem swp_size {d : Array Int} {i j : Nat} : (Sort.swp d i j).size = d.size := by simp [Sort.swp]
section
variable {P : Program} {n : Nat} {ops rest : List Oper} {Q : Post} {f : Env} {A L : List HP} {E cs σ : List Nat} {listed : Array Bool} {held : Bool}
variable {d : Tmp} {op : Op} {ty : TypeId} {pos : String} {af : Array Edge} {g : Option (Nat × Bool)} {v : Value}
theorem Q.yn (hk : opsS P n ops rest Q (upd f d v) L) (hy : YieldS P n ops ⟨some d, op, ty, pos, af, g⟩ f L v := by first | exact Y.addN rfl rfl (by omega) | exact Y.addC rfl rfl (by omega) | exact Y.subN rfl rfl (by omega) | exact Y.subC rfl rfl (by omega) | exact Y.iaN rfl rfl (by omega) | exact Y.mulC rfl rfl (by omega) | exact Y.mulD rfl rfl (by omega) | exact Y.quoC rfl rfl (by omega) | exact Y.ldI rfl (by omega)) : opsS P n ops (⟨some d, op, ty, pos, af, g⟩ :: rest) Q f L := S.y hy hk
theorem Q.dyn {i : Nat} (hi : ops[i]? = some ⟨some d, op, ty, pos, af, g⟩) (h9 : Nat.beq i 99999 = false) (hE : E.contains i = false) (h : drawS P n ops E cs A σ Q (listed.setIfInBounds i true) held (upd f d v) L)
    (hy : YieldS P n ops ⟨some d, op, ty, pos, af, g⟩ f [] v := by first | exact Y.addN rfl rfl (by omega) | exact Y.addC rfl rfl (by omega) | exact Y.subN rfl rfl (by omega) | exact Y.subC rfl rfl (by omega) | exact Y.iaN rfl rfl (by omega) | exact Y.mulC rfl rfl (by omega) | exact Y.mulD rfl rfl (by omega) | exact Y.quoC rfl rfl (by omega) | exact Y.guard rfl (by first | exact Y.addN rfl rfl (by omega) | exact Y.addC rfl rfl (by omega) | exact Y.subN rfl rfl (by omega) | exact Y.subC rfl rfl (by omega) | exact Y.iaN rfl rfl (by omega) | exact Y.mulC rfl rfl (by omega) | exact Y.mulD rfl rfl (by omega) | exact Y.quoC rfl rfl (by omega))) : drawS P n ops E cs A (i :: σ) Q listed held f L := D.yp hi h9 hE hy h
theorem Q.dyl {i : Nat} (hi : ops[i]? = some ⟨some d, op, ty, pos, af, g⟩) (h9 : Nat.beq i 99999 = false) (hE : E.contains i = false) (h : drawS P n ops E cs A σ Q (listed.setIfInBounds i true) true (upd f d v) L)
    (hc : (cs.all fun m => m != i && (ops.toArray[m]?).isSome && reach ops.toArray 4 i m) = true := by kernel_rfl) (hy : YieldS P n ops ⟨some d, op, ty, pos, af, g⟩ f A v := by first | exact Y.ldI rfl (by omega) | exact Y.guard rfl (Y.ldI rfl (by omega))) : drawS P n ops E cs A (i :: σ) Q listed true f L := D.y hi h9 hE hc hy h
end
namespace Q
theorem rn {A B : Prop} (hk : B) (h : W B → A := by intro hk; (repeat (first | refine Q.yn ?_ | refine S.stI rfl rfl (by first | omega | (rw [Array.size_setIfInBounds]; omega)) ?_ | (refine GQ.y ?_; refine Q.y ?_) | refine Q.go ?_ | (refine GQ.g ?_; refine Q.gq ?_) | (refine GQ.s ?_; refine Q.st ?_) | (refine GQ.g ?_; refine Q.gd ?_) | refine Q.ct rfl ?_ | refine Q.cf rfl ?_)); (first | (refine GQ.a ?_; refine Q.al ?_; exact hk.x) | exact hk.x)) : A := h ⟨hk⟩
theorem rdn {A B : Prop} (hk : B) (h : W B → A := by intro hk; (repeat (first | (refine opsS_nil ?_; refine N.tn ?_) | refine Q.dyn rfl rfl rfl ?_ | refine Q.dyl rfl rfl rfl ?_ | refine D.endA ?_ | refine Q.dp rfl rfl rfl ?_ | refine Q.dy rfl rfl rfl ?_ | refine D.end_ ?_ | refine Q.endH ?_ | (refine D.e rfl rfl rfl ?_; (first | refine S.gskip1 rfl ?_ | refine S.gskip rfl ?_ | refine S.y (Y.gskipU rfl) ?_); refine opsS_nil ?_; refine N.tn ?_) | refine Q.dT rfl rfl rfl ?_ | refine Q.dF rfl rfl rfl ?_ | (refine D.e rfl rfl rfl ?_; (refine GQ.s ?_; refine Q.st ?_); refine opsS_nil ?_; refine N.tn ?_))); (first | (refine D.e rfl rfl rfl ?_; refine GQ.a ?_; refine Q.al ?_; exact hk.x) | exact hk.x)) : A := h ⟨hk⟩
end Q
end Go.SX
namespace Go.SX
open Go
section
variable {P : Program} {n : Nat} {ops rest : List Oper} {Q : Post} {f : Env} {A L : List HP} {d : Tmp} {ty : TypeId} {pos : String} {af : Array Edge}
theorem Y.ldRj {x : Operand} {t : TypeId} {sz bts : Nat} {zs : List Value} {b o j : Nat} {v : Value} {cs : List Value} [h : Ty P t false sz zs bts] (hx : ev f x = some (.pointer (some ⟨b, o + j, none⟩))) (hr : RdC A b o cs) (hj : cs[j]? = some v) : YieldS P n ops ⟨some d, .load t x, ty, pos, af, none⟩ f A v :=
  Y.ldR hx (hr.at hj)
theorem Y.shr {x y : Operand} {t t' : TypeId} {k k' : IntKind} {a b : Nat} (hx : ev f x = some (.int k (a : Int))) (hy : ev f y = some (.int k' (b : Int))) (hb : b ≤ k.bits) : YieldS P n ops ⟨some d, .binOp .shr t x y t', ty, pos, af, none⟩ f A (.int k ((a / 2 ^ b : Nat) : Int)) :=
  Y.of (fun _ w s => by
    have e1 : ¬ ((b : Int) < 0) := by omega
    have e2 : Min.min b k.bits = b := Nat.min_eq_left hb
    have e3 : (a : Int).fdiv (2 ^ b) = ((a / 2 ^ b : Nat) : Int) := by
      rw [Int.fdiv_eq_ediv_of_nonneg _ (by exact_mod_cast Nat.zero_le _)]; norm_cast
    simp [execOp, s.eval hx, s.eval hy, eqGuard, binOp, Op.shift, e1, e2, e3])
theorem Y.shl {x y : Operand} {t t' : TypeId} {k k' : IntKind} {a b : Nat} (hx : ev f x = some (.int k (a : Int))) (hy : ev f y = some (.int k' (b : Int))) (hb : b ≤ k.bits) : YieldS P n ops ⟨some d, .binOp .shl t x y t', ty, pos, af, none⟩ f A (.int k (k.wrap ((a * 2 ^ b : Nat) : Int))) :=
  Y.of (fun _ w s => by
    have e1 : ¬ ((b : Int) < 0) := by omega
    have e2 : Min.min b k.bits = b := Nat.min_eq_left hb
    have e3 : (a : Int) * 2 ^ b = ((a * 2 ^ b : Nat) : Int) := by norm_cast
    have e4 : (Op.shift .shl k (a : Int) k' (b : Int)).run P w = .ok (.int k (k.wrap ((a * 2 ^ b : Nat) : Int))) w := by
      unfold Op.shift
      rw [if_neg e1]
      simp only [Int.toNat_natCast, e2, e3, Sem.run_pure]
    simp [execOp, s.eval hx, s.eval hy, eqGuard, binOp, e4])
theorem Y.and {x y : Operand} {t t' : TypeId} {k : IntKind} {a b : Int} (hx : ev f x = some (.int k a)) (hy : ev f y = some (.int k b)) : YieldS P n ops ⟨some d, .binOp .and t x y t', ty, pos, af, none⟩ f A ((.int k (k.wrap ((BitVec.ofInt k.bits a) &&& (BitVec.ofInt k.bits b)).toNat))) :=  Y.of (fun _ w s => by simp [execOp, s.eval hx, s.eval hy, eqGuard, binOp, Op.intBits])
theorem Y.idx {x y : Operand} {t : TypeId} {k : IntKind} {s0 : ByteArray} {i : Nat} {b : UInt8} [h : StrTy P t] (hx : ev f x = some (.string s0)) (hy : ev f y = some (.int k (i : Int))) (hb : s0[i]? = some b) : YieldS P n ops ⟨some d, .index t x y, ty, pos, af, none⟩ f A (.int .u8 b.toNat) :=
  Y.of (fun _ w s => by simp [execOp, s.eval hx, s.eval hy, Instr.index, asIntOf, h.und, hb])
end
theorem opsS_mono {P : Program} {n : Nat} {ops rest : List Oper} {Q Q' : Post} {f : Env} {L : List HP} (h : opsS P n ops rest Q f L) (hq : ∀ e f L, Q e f L → Q' e f L) : opsS P n ops rest Q' f L :=
  fun ok F a w s t => wpList_mono (h ok F a w s t) fun _ _ _ ⟨f, L, s, t, q⟩ => ⟨f, L, s, t, hq _ _ _ q⟩
theorem opsS_cutT {P : Program} {n : Nat} {ops rest : List Oper} {y : Code} {Q : Post} {f : Env} {L : List HP} {σ : Type} (sl : σ → List (Nat × Value)) (H : σ → List HP) (φ : σ → Prop)
    (h : opsS P n ops rest (thenS (fun f L => ∃ s, slots f (sl s) ∧ Ent L (H s) ∧ φ s) Q) f L)
    (hk : ∀ s, φ s → swp P n y Q (updAll (sl s)) (H s)) : opsS P n ops rest (thenS (fun f L => swp P n y Q f L) Q) f L := by
  refine opsS_mono h ?_
  intro e f L q
  cases e <;> first | exact q | (obtain ⟨s, h1, h2, h3⟩ := q; exact swp_keep _ h1 (swp_ent h2 (hk s h3)))
theorem xor64 (a b : UInt64) : IntKind.u64.wrap (((BitVec.ofInt IntKind.u64.bits (a.toNat : Int)) ^^^ (BitVec.ofInt IntKind.u64.bits (b.toNat : Int))).toNat : Int) = ((a ^^^ b).toNat : Int) := by
  have e : ∀ x : UInt64, BitVec.ofInt 64 (x.toNat : Int) = x.toBitVec := fun x => by
    apply BitVec.eq_of_toNat_eq
    have := x.toNat_lt
    simp
  have h := (a ^^^ b).toNat_lt
  show IntKind.u64.wrap (((BitVec.ofInt 64 (a.toNat : Int)) ^^^ (BitVec.ofInt 64 (b.toNat : Int))).toNat : Int) = _
  rw [e, e, show (a.toBitVec ^^^ b.toBitVec).toNat = (a ^^^ b).toNat from rfl]
  exact wrap_u64 (by omega) (by omega)
theorem shl64 (a : UInt64) (k : Nat) (hk : k < 64) : IntKind.u64.wrap ((a.toNat * 2 ^ k : Nat) : Int) = ((a <<< (UInt64.ofNat k)).toNat : Int) := by
  rw [IntKind.wrap_u64]
  simp [UInt64.toNat_shiftLeft, Nat.mod_eq_of_lt hk, Nat.shiftLeft_eq]
theorem shr64 (a : UInt64) (k : Nat) (hk : k < 64) : ((a.toNat / 2 ^ k : Nat) : Int) = ((a >>> (UInt64.ofNat k)).toNat : Int) := by
  have e1 : (UInt64.ofNat k).toNat % 64 = k := by simp; omega
  rw [UInt64.toNat_shiftRight, e1, Nat.shiftRight_eq_div_pow]
theorem and64 (a b : Nat) (ha : a < 18446744073709551616) (hb : b < 18446744073709551616) : IntKind.u64.wrap (((BitVec.ofInt IntKind.u64.bits (a : Int)) &&& (BitVec.ofInt IntKind.u64.bits (b : Int))).toNat : Int) = ((a &&& b : Nat) : Int) := by
  have e : ∀ x : Nat, x < 18446744073709551616 → (BitVec.ofInt 64 (x : Int)).toNat = x := fun x hx => by simp; omega
  show IntKind.u64.wrap (((BitVec.ofInt 64 (a : Int)) &&& (BitVec.ofInt 64 (b : Int))).toNat : Int) = _
  rw [BitVec.toNat_and, e _ ha, e _ hb]
  have : a &&& b ≤ a := Nat.and_le_left
  exact wrap_u64 (by omega) (by omega)
theorem bitsLen_shift {x k : Nat} (h : 2 ^ k ≤ x) : Sort.bitsLen x = k + Sort.bitsLen (x / 2 ^ k) := by
  unfold Sort.bitsLen
  have hp : 0 < 2 ^ k := Nat.two_pow_pos k
  have h1 : ¬ x = 0 := by omega
  have h2 : ¬ x / 2 ^ k = 0 := by
    have := Nat.div_pos h hp; omega
  rw [if_neg h1, if_neg h2]
  have hlog : Nat.log2 (x / 2 ^ k) = Nat.log2 x - k := by
    have hge : k ≤ Nat.log2 x := (Nat.le_log2 h1).2 h
    refine (Nat.log2_eq_iff h2).2 ⟨?_, ?_⟩
    · rw [Nat.le_div_iff_mul_le hp, ← Nat.pow_add, Nat.sub_add_cancel hge]
      exact Nat.log2_self_le h1
    · rw [Nat.div_lt_iff_lt_mul hp, ← Nat.pow_add, show Nat.log2 x - k + 1 + k = Nat.log2 x + 1 by omega]
      exact Nat.lt_log2_self
  have hge : k ≤ Nat.log2 x := (Nat.le_log2 h1).2 h
  omega
end Go.SX
namespace Go.Proofs.YtjidejcehmamkaaGreatDoor
open Go Go.SX
attribute [local irreducible] swp opsS thenS blockS retS CallsS St Ent YieldS anyS drawS
abbrev VL := List (Int × List Int)
def okR (M : Nat → Option Obj) (ovs : List OV) : Prop := ∀ o ∈ ovs, SlM M o.a o.vec.length 1 (o.vec.map I32)
def chainP (M : Nat → Option Obj) (p : Nat) (a : Option Addr) (c : Nat) (ovs : List OV) : List HP := [pt p (cl [.slice a ovs.length c] 262), slO 130 2 a ovs.length c (ovs.flatMap OV.cells)]
def chainH (M : Nat → Option Obj) (p : Nat) (vs : VL) : HP := exH fun x : (Option Addr × Nat) × List OV => allH (pureH (x.2.map OV.abs = vs ∧ okR M x.2) :: chainP M p x.1.1 x.1.2 x.2)
theorem chain_shut {M : Nat → Option Obj} {p : Nat} {a : Option Addr} {c : Nat} {ovs : List OV} {L : List HP} (h : okR M ovs) : Ent (pt p (cl [.slice a ovs.length c] 262) :: slO 130 2 a ovs.length c (ovs.flatMap OV.cells) :: L) (chainH M p (ovs.map OV.abs) :: L) :=
  Ent.trans (Ent.shut_pure ⟨rfl, h⟩) (Ent.trans (Ent.shut_all (L := pureH (ovs.map OV.abs = ovs.map OV.abs ∧ okR M ovs) :: chainP M p a c ovs)) (Ent.shut_ex (P := fun x : (Option Addr × Nat) × List OV => allH (pureH (x.2.map OV.abs = ovs.map OV.abs ∧ okR M x.2) :: chainP M p x.1.1 x.1.2 x.2)) ((a, c), ovs)))
theorem calls_chain {g : FuncId} {args : List Value} {R : Value → List HP → Prop} {M : Nat → Option Obj} {p : Nat} {vs : VL} {L : List HP}
    (h : ∀ a c ovs, ovs.map OV.abs = vs → okR M ovs → CallsS Tryz.prog g args (pt p (cl [.slice a ovs.length c] 262) :: slO 130 2 a ovs.length c (ovs.flatMap OV.cells) :: L) R) : CallsS Tryz.prog g args (chainH M p vs :: L) R :=
  CallsS.ex fun x => CallsS.all (CallsS.pure fun hx => h x.1.1 x.1.2 x.2 hx.1 hx.2)
theorem chain_rd {p b c k : Nat} {ovs : List OV} {o : OV} {L : List HP} (h : ovs[k]? = some o) : RdC (pt p (cl [.slice (some ⟨b, 0, none⟩) ovs.length c] 262) :: slO 130 2 (some ⟨b, 0, none⟩) ovs.length c (ovs.flatMap OV.cells) :: L) b (0 + k * 2) (OV.cells o) :=
  RdC.elem (g := OV.cells) (fun _ => rfl) RdC.ofS h
def lastS (vs : VL) : Int := ((vs.getLast?).map (·.1)).getD 0
theorem LenN_spec (L : List HP) : CallsS Tryz.prog 119 [.pointer none] L (fun v L' => v = .int .i64 0 ∧ L' = L) := by
  refine CallsS.of_body Tryz.func119 rfl rfl rfl ?_
  refine Q.r ?_; (repeat (intro b1; refine Q.r ?_))
  exact N.r1 (RV.tmp rfl RV.nil) (Ent.refl _) ⟨rfl, rfl⟩
theorem LastN_spec (L : List HP) : CallsS Tryz.prog 114 [.pointer none] L (fun v L' => v = .int .u64 0 ∧ L' = L) := by
  refine CallsS.of_body Tryz.func114 rfl rfl rfl ?_
  refine Q.r ?_; (repeat (intro b1; refine Q.r ?_))
  refine S.cr rfl (LenN_spec _) ?_
  rintro _ _ ⟨rfl, rfl⟩
  refine Q.r ?_; (repeat (intro b1; refine Q.r ?_))
  exact N.r1 (RV.tmp rfl RV.nil) (Ent.refl _) ⟨rfl, rfl⟩
theorem Len_spec' (p : Nat) (a : Option Addr) (m c : Nat) (L : List HP) : CallsS Tryz.prog 119 [.pointer (some ⟨p, 0, none⟩)] (pt p (cl [.slice a m c] 262) :: L) (fun v L' => v = .int .i64 m ∧ L' = pt p (cl [.slice a m c] 262) :: L) := by
  refine CallsS.of_body Tryz.func119 rfl rfl rfl ?_
  refine Q.r ?_; (repeat (intro b1; refine Q.r ?_))
  exact N.r1 (RV.tmp rfl RV.nil) (Ent.refl _) ⟨rfl, rfl⟩
theorem ChLen_spec (M : Nat → Option Obj) (p : Nat) (vs : VL) (L : List HP) : CallsS Tryz.prog 119 [.pointer (some ⟨p, 0, none⟩)] (chainH M p vs :: L) (fun v L' => v = .int .i64 vs.length ∧ L' = chainH M p vs :: L) := by
  refine calls_chain fun a c ovs h1 h2 => ?_
  subst h1
  exact (Len_spec' p a ovs.length c _).weak (Ent.refl _) (by rintro _ _ ⟨rfl, rfl⟩; exact ⟨_, chain_shut h2, by simp, rfl⟩)
theorem ChLast_spec (M : Nat → Option Obj) (p : Nat) (vs : VL) (L : List HP) (hn : vs.length ≤ 1000000) : CallsS Tryz.prog 114 [.pointer (some ⟨p, 0, none⟩)] (chainH M p vs :: L) (fun v L' => v = .int .u64 (lastS vs) ∧ L' = chainH M p vs :: L) := by
  refine calls_chain fun a c ovs h1 h2 => ?_
  subst h1
  rw [List.length_map] at hn
  refine CallsS.of_body Tryz.func114 rfl rfl rfl ?_
  refine Q.r ?_; (repeat (intro b1; refine Q.r ?_))
  refine S.cr rfl (Len_spec' p a ovs.length c _) ?_
  rintro _ _ ⟨rfl, rfl⟩
  by_cases h0 : ovs.length = 0
  · have hx : ovs = [] := List.eq_nil_of_length_eq_zero h0
    refine Q.r ?_; (repeat (intro b1; refine Q.r ?_))
    exact N.r1 (RV.tmp rfl RV.nil) (chain_shut h2) ⟨by rw [hx]; rfl, rfl⟩
  · obtain ⟨o, ho⟩ := mem_get (l := ovs) (k := ovs.length - 1) (by omega)
    have hl : lastS (ovs.map OV.abs) = o.id := by
      unfold lastS
      rw [List.getLast?_map, List.getLast?_eq_getElem?, ho]; rfl
    refine Q.r ?_; (repeat (intro b1; refine Q.r ?_))
    refine swp_addr a (fun ha => ?_)
    rcases ha with ha | ⟨b, rfl⟩
    · omega
    have hr := chain_rd (p := p) (b := b) (c := c) (L := L) ho
    refine D.start [] [] [0, 1, 2, 3, 4, 5, 6, 7, 8, 9, 10, 11, 12, 13] _ [] rfl (by kernel_rfl) rfl (by kernel_rfl) NoPanic.no (Ent.refl _) ?_
    repeat (first | refine Q.dyn rfl rfl rfl ?_ | refine Q.dyl rfl rfl rfl ?_ | refine D.y rfl rfl rfl (by kernel_rfl) (by first | exact (Y.ldRj rfl (by first | assumption | exact RdC.sub (by assumption)) rfl) | exact Y.guard rfl (Y.ldRj rfl (by first | assumption | exact RdC.sub (by assumption)) rfl)) ?_ | refine D.endA ?_ | refine Q.dy rfl rfl rfl ?_ | refine Q.dp rfl rfl rfl ?_ | refine D.end_ ?_ | refine Q.endH ?_ | (refine D.e rfl rfl rfl ?_; (first | refine S.gskip1 rfl ?_ | refine S.gskip rfl ?_ | refine S.y (Y.gskipU rfl) ?_); refine opsS_nil ?_; refine N.tn ?_) | refine Q.dT rfl rfl rfl ?_ | refine Q.dF rfl rfl rfl ?_ | (refine D.e rfl rfl rfl ?_; (first | (refine GQ.a ?_; refine Q.al (fun b1 => ?_)) | (refine GQ.s ?_; refine Q.st ?_)); refine opsS_nil ?_; refine N.tn ?_))
    refine Q.r ?_; (repeat (intro b1; refine Q.r ?_))
    exact N.r1 (RV.tmp rfl RV.nil) (chain_shut h2) ⟨by rw [hl], rfl⟩
def aftN (vs : VL) (st : Int) : Nat := (vs.filter fun v => decide (v.1 ≤ st)).length
theorem Search_spec (f : FuncId) (fs cs : List Value) [he : Enters Tryz.prog f] (p : Nat → Bool) (m r : Nat) (A : List HP) (hm : m ≤ 4611686018427387904) (hf : ∀ i, i < m → CallsS Tryz.prog f (fs ++ [.int .i64 i] ++ cs) A (fun v L' => v = .bool (p i) ∧ L' = A))
    (hr : r ≤ m) (hlo : ∀ i, i < r → p i = false) (hhi : ∀ i, r ≤ i → i < m → p i = true) :
    CallsS Tryz.prog 180 [.int .i64 m, .func (.func f) fs.toArray cs.toArray] A (fun v L' => v = .int .i64 r ∧ L' = A) := by
  refine CallsS.of_body Tryz.func180 rfl rfl rfl ?_
  refine Q.r ?_; (repeat (intro b1; refine Q.r ?_))
  refine swp_loop (σ := Nat × Nat) (fun s => [(1, .func (.func f) fs.toArray cs.toArray), (5, .int .i64 s.1), (6, .int .i64 s.2)]) (fun _ => A) (fun s => s.1 ≤ r ∧ r ≤ s.2 ∧ s.2 ≤ m) (fun s => s.2 - s.1) (0, m) ⟨rfl, rfl, rfl, trivial⟩ (Ent.refl _) ⟨by dsimp only; omega, by dsimp only; omega, by dsimp only; omega⟩ ?_
  rintro ⟨i, j⟩ ⟨h1, h2, h3⟩
  dsimp only at h1 h2 h3 ⊢
  by_cases hij : i < j
  · refine Q.rn ?_; (repeat (intro b1; refine Q.rn ?_))
    refine S.y (Y.cvi rfl) ?_
    rw [wrap_u64 (by omega) (by omega)]
    refine S.y (Y.shr (a := i + j) (b := 1) rfl rfl (by decide)) ?_
    rw [show (i + j) / 2 ^ 1 = (i + j) / 2 by simp]
    refine S.y (Y.cvi rfl) ?_
    rw [wrap_i64 (by omega) (by omega)]
    obtain ⟨h, hh⟩ : ∃ h, h = (i + j) / 2 := ⟨_, rfl⟩
    have hh1 : i ≤ h := by omega
    have hh2 : h < j := by omega
    rw [← hh]
    refine Q.rn ?_; (repeat (intro b1; refine Q.rn ?_))
    refine S.crF (fs := fs) (cs := cs) rfl rfl (hf h (by omega)) ?_
    rintro _ _ ⟨rfl, rfl⟩
    cases hp : p h with
    | true =>
      have hrh : r ≤ h := by
        by_cases hc : r ≤ h
        · exact hc
        · rw [hlo h (by omega)] at hp; cases hp
      refine Q.rn ?_; (repeat (intro b1; refine Q.rn ?_))
      exact ⟨(i, h), ⟨rfl, rfl, rfl, trivial⟩, Ent.refl _, ⟨h1, hrh, by dsimp only; omega⟩, by dsimp only; omega⟩
    | false =>
      have hrh : h < r := by
        by_cases hc : h < r
        · exact hc
        · rw [hhi h (by omega) (by omega)] at hp; cases hp
      refine Q.rn ?_; (repeat (intro b1; refine Q.rn ?_))
      exact ⟨(h + 1, j), ⟨rfl, rfl, rfl, trivial⟩, Ent.refl _, ⟨hrh, h2, h3⟩, by dsimp only; omega⟩
  · have : i = r := by omega
    subst this
    refine Q.rn ?_; (repeat (intro b1; refine Q.rn ?_))
    exact N.r1 (RV.tmp rfl RV.nil) (Ent.refl _) ⟨rfl, rfl⟩
end Go.Proofs.YtjidejcehmamkaaGreatDoor
namespace Go.Proofs.YtjidejcehmamkaaGreatDoor
open Go Go.SX
attribute [local irreducible] swp opsS thenS blockS retS CallsS St Ent YieldS anyS drawS
def sortedV (vs : VL) : Prop := (vs.map (·.1)).Pairwise (· < ·)
theorem aft_lo : ∀ {vs : VL} {st : Int}, sortedV vs → ∀ i v, i < aftN vs st → vs[i]? = some v → v.1 ≤ st
  | [], _, _, _, _, _, h => by simp at h
  | x :: t, st, hs, i, v, hi, h => by
    unfold sortedV at hs
    rw [List.map_cons, List.pairwise_cons] at hs
    unfold aftN at hi
    by_cases hx : x.1 ≤ st
    · cases i with
      | zero => simp at h; subst h; exact hx
      | succ i =>
        simp [hx] at hi
        exact aft_lo (vs := t) hs.2 i v hi (by simpa using h)
    · have : t.filter (fun v => decide (v.1 ≤ st)) = [] := by
        rw [List.filter_eq_nil_iff]
        intro y hy
        have := hs.1 y.1 (List.mem_map_of_mem hy)
        simp; omega
      simp [hx, this] at hi
theorem aft_hi : ∀ {vs : VL} {st : Int}, sortedV vs → ∀ i v, aftN vs st ≤ i → vs[i]? = some v → st < v.1
  | [], _, _, _, _, _, h => by simp at h
  | x :: t, st, hs, i, v, hi, h => by
    unfold sortedV at hs
    rw [List.map_cons, List.pairwise_cons] at hs
    unfold aftN at hi
    by_cases hx : x.1 ≤ st
    · cases i with
      | zero => simp [hx] at hi
      | succ i =>
        simp [hx] at hi
        exact aft_hi (vs := t) hs.2 i v hi (by simpa using h)
    · cases i with
      | zero => simp at h; subst h; omega
      | succ i =>
        have := hs.1 v.1 (List.mem_map_of_mem (List.mem_of_getElem? (by simpa using h)))
        omega
theorem aft_le (vs : VL) (st : Int) : aftN vs st ≤ vs.length := List.length_filter_le _ _
instance : Enters Tryz.prog 181 := en181
theorem after1_spec (b2 b3 p b c i : Nat) (st : Int) (ovs : List OV) (o : OV) (L : List HP) (ho : ovs[i]? = some o) :
    CallsS Tryz.prog 181 ([] ++ [.int .i64 i] ++ [.pointer (some ⟨b2, 0, none⟩), .pointer (some ⟨b3, 0, none⟩)])
      (pt b3 (cl [.int .u64 st] 30) :: pt b2 (cl [.pointer (some ⟨p, 0, none⟩)] 216) :: pt p (cl [.slice (some ⟨b, 0, none⟩) ovs.length c] 262) :: slO 130 2 (some ⟨b, 0, none⟩) ovs.length c (ovs.flatMap OV.cells) :: L)
      (fun v L' => v = .bool (decide (st < o.id)) ∧ L' = pt b3 (cl [.int .u64 st] 30) :: pt b2 (cl [.pointer (some ⟨p, 0, none⟩)] 216) :: pt p (cl [.slice (some ⟨b, 0, none⟩) ovs.length c] 262) :: slO 130 2 (some ⟨b, 0, none⟩) ovs.length c (ovs.flatMap OV.cells) :: L) := by
  refine CallsS.of_body Tryz.func181 rfl rfl rfl ?_
  have hi : i < ovs.length := (List.getElem?_eq_some_iff.1 ho).1
  have hr := chain_rd (p := p) (b := b) (c := c) (L := L) ho
  refine Q.r ?_; (repeat (intro b1; refine Q.r ?_))
  refine D.start [] [] [0, 1, 2, 3, 4, 5, 6, 7, 8, 9, 10] _ [] rfl (by kernel_rfl) rfl (by kernel_rfl) NoPanic.no (Ent.refl _) ?_
  repeat (first | refine Q.dyn rfl rfl rfl ?_ | refine Q.dyl rfl rfl rfl ?_ | refine D.y rfl rfl rfl (by kernel_rfl) (by first | exact (Y.ldRj rfl (by first | assumption | exact RdC.sub (by assumption)) rfl) | exact Y.guard rfl (Y.ldRj rfl (by first | assumption | exact RdC.sub (by assumption)) rfl)) ?_ | refine D.endA ?_ | refine Q.dy rfl rfl rfl ?_ | refine Q.dp rfl rfl rfl ?_ | refine D.end_ ?_ | refine Q.endH ?_ | (refine D.e rfl rfl rfl ?_; (first | refine S.gskip1 rfl ?_ | refine S.gskip rfl ?_ | refine S.y (Y.gskipU rfl) ?_); refine opsS_nil ?_; refine N.tn ?_) | refine Q.dT rfl rfl rfl ?_ | refine Q.dF rfl rfl rfl ?_ | (refine D.e rfl rfl rfl ?_; (first | (refine GQ.a ?_; refine Q.al (fun b1 => ?_)) | (refine GQ.s ?_; refine Q.st ?_)); refine opsS_nil ?_; refine N.tn ?_))
  refine Q.r ?_; (repeat (intro b1; refine Q.r ?_))
  exact N.r1 (RV.tmp rfl RV.nil) (Ent.refl _) ⟨rfl, rfl⟩
theorem after_spec' (p : Nat) (a : Option Addr) (c : Nat) (ovs : List OV) (st : Int) (L : List HP) (hs : sortedV (ovs.map OV.abs)) (hn : ovs.length ≤ 1000000) :
    CallsS Tryz.prog 160 [.pointer (some ⟨p, 0, none⟩), .int .u64 st] (pt p (cl [.slice a ovs.length c] 262) :: slO 130 2 a ovs.length c (ovs.flatMap OV.cells) :: L)
      (fun v L' => v = .int .i64 (aftN (ovs.map OV.abs) st) ∧ L' = pt p (cl [.slice a ovs.length c] 262) :: slO 130 2 a ovs.length c (ovs.flatMap OV.cells) :: L) := by
  refine CallsS.addr a fun ha => ?_
  refine CallsS.of_body Tryz.func160 rfl rfl rfl ?_
  refine Q.r ?_; (repeat (intro b1; refine Q.r ?_))
  rename_i b2
  refine S.y (Y.mf rfl rfl) ?_
  have hmap : ∀ (i : Nat) (o : OV), ovs[i]? = some o → (ovs.map OV.abs)[i]? = some (o.id, o.vec) := fun i o h => by rw [List.getElem?_map, h]; rfl
  refine S.cr rfl (Search_spec 181 [] [.pointer (some ⟨b2, 0, none⟩), .pointer (some ⟨b1, 0, none⟩)] (fun i => match ovs[i]? with | some o => decide (st < o.id) | none => false) ovs.length (aftN (ovs.map OV.abs) st) _ (by omega) ?_ (by have := aft_le (ovs.map OV.abs) st; simpa using this) ?_ ?_) ?_
  · intro i hi
    obtain ⟨o, ho⟩ := mem_get hi
    rcases ha with ha | ⟨b, rfl⟩
    · omega
    have := after1_spec b2 b1 p b c i st ovs o L ho
    simpa only [ho] using this
  · intro i hi
    cases ho : ovs[i]? with
    | none => rfl
    | some o =>
      have := aft_lo hs i _ hi (hmap i o ho)
      simp only [decide_eq_false_iff_not]
      dsimp only at this; omega
  · intro i hi hlt
    obtain ⟨o, ho⟩ := mem_get hlt
    have := aft_hi hs i _ hi (hmap i o ho)
    rw [ho]
    simpa using this
  rintro _ _ ⟨rfl, rfl⟩
  refine Q.r ?_; (repeat (intro b1; refine Q.r ?_))
  exact N.r1 (RV.tmp rfl RV.nil) (Ent.drop (Ent.drop (Ent.refl _))) ⟨rfl, rfl⟩
end Go.Proofs.YtjidejcehmamkaaGreatDoor
namespace Go.Proofs.YtjidejcehmamkaaGreatDoor
open Go Go.SX
attribute [local irreducible] swp opsS thenS blockS retS CallsS St Ent YieldS anyS drawS
theorem ChCopy_spec (o : OV) (A : List HP) (h : RdS A o.a o.vec.length 1 (o.vec.map I32)) (hn : o.vec.length ≤ 1000000) :
    CallsS Tryz.prog 158 [o.val] A (fun v L' => ∃ a c, v = OV.val ⟨o.id, a, c, o.vec⟩ ∧ L' = slO 21 1 a o.vec.length c (o.vec.map I32) :: A) := by
  refine CallsS.of_body Tryz.func158 rfl rfl rfl ?_
  refine Q.r ?_; (repeat (intro b1; refine Q.r ?_))
  refine S.cr rfl (CloneI_spec o.a o.c o.vec _ h.sub hn) ?_
  rintro _ _ ⟨a', c', rfl, rfl⟩
  refine Q.r ?_; (repeat (intro b1; refine Q.r ?_))
  exact N.r1 (by apply RV.cellN; rfl; exact RdC.row; rfl; exact RV.nil) (Ent.cons (Ent.drop (Ent.drop (Ent.refl _)))) ⟨a', c', rfl, rfl⟩
class PickCh (p : Nat) (L : List HP) (M : outParam (Nat → Option Obj)) (vs : outParam VL) (L0 : outParam (List HP)) : Prop where
  ent : Ent L (chainH M p vs :: L0)
instance PickCh.here {p : Nat} {L : List HP} {M : Nat → Option Obj} {vs : VL} : PickCh p (chainH M p vs :: L) M vs L := ⟨Ent.refl _⟩
instance (priority := low) PickCh.there {p : Nat} {A : HP} {L L0 : List HP} {M : Nat → Option Obj} {vs : VL} [h : PickCh p L M vs L0] : PickCh p (A :: L) M vs (A :: L0) := ⟨(h.ent.cons).trans (Ent.perm (.swap _ _ _))⟩
section
variable {n : Nat} {ops rest : List Oper} {cd : Code} {Q : Post} {f : Env} {L L0 : List HP} {M : Nat → Option Obj} {vs : VL}
theorem swp_chain (p : Nat) [hp : PickCh p L M vs L0] (h : ∀ a c ovs, ovs.map OV.abs = vs → okR M ovs → swp Tryz.prog n cd Q f (pt p (cl [.slice a ovs.length c] 262) :: slO 130 2 a ovs.length c (ovs.flatMap OV.cells) :: L0)) : swp Tryz.prog n cd Q f L :=
  swp_ent hp.ent (swp_ex fun x => swp_all (swp_pure fun hx => h x.1.1 x.1.2 x.2 hx.1 hx.2))
theorem S.cch {d : Tmp} {ty : TypeId} {pos : String} {af : Array Edge} {g : FuncId} {xs : Array Operand} {ats : Array TypeId} {args : List Value} {R : Value → List HP → Prop} (p : Nat) [hp : PickCh p L M vs L0] [he : Enters Tryz.prog g] (hx : argsL f xs.toList = some args) (hc : CallsS Tryz.prog g args (chainH M p vs :: L0) R) (hk : ∀ v L', R v L' → opsS Tryz.prog n ops rest Q (upd f d v) L') :
    opsS Tryz.prog n ops (⟨some d, .call ⟨.value (.func g), xs, ats⟩, ty, pos, af, none⟩ :: rest) Q f L := opsS_ent hp.ent (S.cr hx hc hk)
end
def putE (vs : VL) (st : Int) (vec : List Int) : Int :=
  if st = 0 ∨ 1099511627776 < st then 1 else if 0 < vec.length ∧ rightV vec = false then 4 else if st ≤ lastS vs then 7 else 0
set_option maxHeartbeats 2000000 in
theorem Put_spec (M : Nat → Option Obj) (p : Nat) (vs : VL) (o : OV) (A : List HP) (h : RdS (roM M :: A) o.a o.vec.length 1 (o.vec.map I32)) (hv : o.vec.length ≤ 1000000) (hn : vs.length ≤ 1000000) :
    CallsS Tryz.prog 116 [.pointer (some ⟨p, 0, none⟩), o.val] (chainH M p vs :: roM M :: A)
      (fun v L' => v = .int .i64 (putE vs o.id o.vec) ∧ (putE vs o.id o.vec ≠ 0 → L' = chainH M p vs :: roM M :: A) ∧ (putE vs o.id o.vec = 0 → ∃ M', leM M M' ∧ L' = chainH M' p (vs ++ [o.abs]) :: roM M' :: A)) := by
  have hsub : Sub (roM M :: A) (chainH M p vs :: roM M :: A) := inferInstance
  unfold putE
  refine CallsS.of_body Tryz.func116 rfl rfl rfl ?_
  by_cases h1 : o.id = 0 ∨ 1099511627776 < o.id
  · rw [if_pos h1]
    by_cases h1a : o.id = 0
    · refine Q.r ?_; (repeat (intro b1; refine Q.r ?_))
      exact N.r1 (RV.tmp rfl RV.nil) (Ent.drop (Ent.refl _)) ⟨rfl, fun _ => rfl, fun h => by cases h⟩
    · refine Q.r ?_; (repeat (intro b1; refine Q.r ?_))
      exact N.r1 (RV.tmp rfl RV.nil) (Ent.drop (Ent.refl _)) ⟨rfl, fun _ => rfl, fun h => by cases h⟩
  rw [if_neg h1]
  have key : ∀ (f : Env) (cd : Code) (b1 : Nat), True := fun _ _ _ => trivial
  by_cases h2 : 0 < o.vec.length ∧ rightV o.vec = false
  · rw [if_pos h2]
    obtain ⟨h2a, h2b⟩ := h2
    refine Q.r ?_; (repeat (intro b1; refine Q.r ?_))
    refine S.cr rfl (Right_spec o.a o.c o.vec _ h.sub (by omega)) ?_
    rintro _ _ ⟨rfl, rfl⟩
    rw [h2b]
    refine Q.r ?_; (repeat (intro b1; refine Q.r ?_))
    exact N.r1 (RV.tmp rfl RV.nil) (Ent.drop (Ent.refl _)) ⟨rfl, fun _ => rfl, fun h => by cases h⟩
  rw [if_neg h2]
  refine swp_seq ?_
  refine swp_region ?_; (repeat (first | (refine GQ.y ?_; refine Q.y ?_) | (refine GQ.a ?_; refine Q.al (fun b1 => ?_)) | (refine GQ.s ?_; refine Q.st ?_) | (refine GQ.g ?_; refine Q.gq ?_))); refine opsS_nil ?_; first | refine N.tn ?_ | skip
  refine swp_seq ?_
  refine swp_block ?_
  have hret : ∀ (Q : Prop), Q → True := fun _ _ => trivial
  by_cases h3 : o.id ≤ lastS vs
  · rw [if_pos h3]
    by_cases h0 : 0 < o.vec.length
    · have hr : rightV o.vec = true := by
        cases hr : rightV o.vec with
        | true => rfl
        | false => exact absurd ⟨h0, hr⟩ h2
      refine Q.r ?_; (repeat (intro b1; refine Q.r ?_))
      refine S.cr rfl (Right_spec o.a o.c o.vec _ h.sub (by omega)) ?_
      rintro _ _ ⟨rfl, rfl⟩
      rw [hr]
      refine Q.r ?_; (repeat (intro b1; refine Q.r ?_))
      refine Q.dgo [true, false, false] [3] [] [0, 1, 2, 3, 4, 5] ?_
      refine Q.rd ?_; (repeat (intro b1; refine Q.rd ?_))
      refine D.e rfl rfl rfl ?_
      refine S.cr rfl (ChLast_spec M p vs _ hn) ?_
      rintro _ _ ⟨rfl, rfl⟩
      refine Q.r ?_; (repeat (intro b1; refine Q.r ?_))
      refine Q.rd ?_; (repeat (intro b1; refine Q.rd ?_))
      refine Q.r ?_; (repeat (intro b1; refine Q.r ?_))
      exact N.r1 (RV.tmp rfl RV.nil) (Ent.pick (Ent.drop (Ent.refl _))) ⟨rfl, fun _ => rfl, fun h => by cases h⟩
    · refine Q.r ?_; (repeat (intro b1; refine Q.r ?_))
      refine Q.dgo [true, false, false] [3] [] [0, 1, 2, 3, 4, 5] ?_
      refine Q.rd ?_; (repeat (intro b1; refine Q.rd ?_))
      refine D.e rfl rfl rfl ?_
      refine S.cr rfl (ChLast_spec M p vs _ hn) ?_
      rintro _ _ ⟨rfl, rfl⟩
      refine Q.r ?_; (repeat (intro b1; refine Q.r ?_))
      refine Q.rd ?_; (repeat (intro b1; refine Q.rd ?_))
      refine Q.r ?_; (repeat (intro b1; refine Q.r ?_))
      exact N.r1 (RV.tmp rfl RV.nil) (Ent.pick (Ent.drop (Ent.refl _))) ⟨rfl, fun _ => rfl, fun h => by cases h⟩
  rw [if_neg h3]
  refine swp_cutB (σ := Unit) (fun _ => [(0, .pointer (some ⟨p, 0, none⟩)), (3, .pointer (some ⟨b1, 0, none⟩))]) (fun _ => chainH M p vs :: pt b1 (cl o.cells 130) :: roM M :: A) (fun _ => True) ?_ ?_
  · by_cases h0 : 0 < o.vec.length
    · have hr : rightV o.vec = true := by
        cases hr : rightV o.vec with
        | true => rfl
        | false => exact absurd ⟨h0, hr⟩ h2
      refine Q.r ?_; (repeat (intro b1; refine Q.r ?_))
      refine S.cr rfl (Right_spec o.a o.c o.vec _ h.sub (by omega)) ?_
      rintro _ _ ⟨rfl, rfl⟩
      rw [hr]
      refine Q.r ?_; (repeat (intro b1; refine Q.r ?_))
      refine Q.dgo [true, false, false] [3] [] [0, 1, 2, 3, 4, 5] ?_
      refine Q.rd ?_; (repeat (intro b1; refine Q.rd ?_))
      refine D.e rfl rfl rfl ?_
      refine S.cr rfl (ChLast_spec M p vs _ hn) ?_
      rintro _ _ ⟨rfl, rfl⟩
      refine Q.r ?_; (repeat (intro b1; refine Q.r ?_))
      refine Q.rd ?_; (repeat (intro b1; refine Q.rd ?_))
      refine Q.r ?_; (repeat (intro b1; refine Q.r ?_))
      exact ⟨(), ⟨rfl, rfl, trivial⟩, by exact Go.SX.Ent.go, trivial⟩
    · refine Q.r ?_; (repeat (intro b1; refine Q.r ?_))
      refine Q.dgo [true, false, false] [3] [] [0, 1, 2, 3, 4, 5] ?_
      refine Q.rd ?_; (repeat (intro b1; refine Q.rd ?_))
      refine D.e rfl rfl rfl ?_
      refine S.cr rfl (ChLast_spec M p vs _ hn) ?_
      rintro _ _ ⟨rfl, rfl⟩
      refine Q.r ?_; (repeat (intro b1; refine Q.r ?_))
      refine Q.rd ?_; (repeat (intro b1; refine Q.rd ?_))
      refine Q.r ?_; (repeat (intro b1; refine Q.r ?_))
      exact ⟨(), ⟨rfl, rfl, trivial⟩, by exact Go.SX.Ent.go, trivial⟩
  rintro _ _
  refine swp_chain p (fun a c ovs e1 e2 => ?_)
  subst e1
  rw [List.length_map] at hn
  refine Q.r ?_; (repeat (intro b1; refine Q.r ?_))
  refine Q.dgo [true, false, true, false] [6, 7, 8, 11] [11] [0, 1, 2, 3, 4, 5, 6, 7, 8, 9, 10, 11] ?_
  refine Q.rd ?_; (repeat (intro b1; refine Q.rd ?_))
  refine D.e rfl rfl rfl ?_
  refine S.cr rfl (ChCopy_spec o _ h.sub hv) ?_
  rintro _ _ ⟨a', c', rfl, rfl⟩
  refine Q.r ?_; (repeat (intro b1; refine Q.r ?_))
  refine Q.rd ?_; (repeat (intro b1; refine Q.rd ?_))
  refine D.e rfl rfl rfl ?_
  refine S.app rfl rfl (SrcS.sl RdC.row (by rfl) (by rfl)) (by rfl) (by omega) (by omega) (fun a2 c2 => ?_)
  refine Q.r ?_; (repeat (intro b1; refine Q.r ?_))
  refine Q.rd ?_; (repeat (intro b1; refine Q.rd ?_))
  refine Q.dc rfl rfl rfl rfl ?_
  refine Q.r ?_; (repeat (intro b1; refine Q.r ?_))
  refine Q.rd ?_; (repeat (intro b1; refine Q.rd ?_))
  refine N.tn ?_
  refine swp_abs a' (fun M' hl hs => ?_)
  refine Q.r ?_; (repeat (intro b1; refine Q.r ?_))
  have hok : okR M' (ovs ++ [⟨o.id, a', c', o.vec⟩]) := fun u hu => by
    rcases List.mem_append.1 hu with hu | hu
    · exact (e2 u hu).mono hl
    · obtain rfl := List.mem_singleton.1 hu
      exact hs
  refine N.r1 (RV.tmp rfl RV.nil) (L' := chainH M' p (ovs.map OV.abs ++ [o.abs]) :: roM M' :: A) ?_ ⟨rfl, fun h => absurd rfl h, fun _ => ⟨M', hl, rfl⟩⟩
  have := chain_shut (p := p) (a := a2) (c := c2) (L := roM M' :: A) hok
  rw [len_snoc, flat_snoc, List.map_append] at this
  refine Ent.trans ?_ this
  exact Go.SX.Ent.go
theorem ChNew0_spec (M : Nat → Option Obj) (L : List HP) : CallsS Tryz.prog 115 [.slice none 0 0] L (fun v L' => ∃ p, v = .tuple #[.pointer (some ⟨p, 0, none⟩), .int .i64 0] ∧ L' = chainH M p [] :: L) := by
  refine CallsS.of_body Tryz.func115 rfl rfl rfl ?_
  refine Q.r ?_; (repeat (intro b1; refine Q.r ?_))
  refine swp_loop (σ := Unit) (fun k => [(4, .pointer (some ⟨b1, 0, none⟩)), (11, .int .i64 0), (12, .int .i64 0)]) (fun _ => pt b1 (cl [.slice none 0 0] 262) :: L) (fun k => True) (fun k => 0) () ⟨rfl, rfl, rfl, trivial⟩ (by exact Go.SX.Ent.go) trivial ?_
  intro _ _
  refine Q.r ?_; (repeat (intro b1; refine Q.r ?_))
  refine N.r2 (RV.tmp rfl (RV.tmp rfl RV.nil)) (Ent.trans (Ent.cons (slO_nil (t := 130) (sz := 2))) ?_) ⟨b1, rfl, rfl⟩
  exact chain_shut (M := M) (p := b1) (a := none) (c := 0) (ovs := []) (L := L) (by intro o ho; cases ho)
set_option maxHeartbeats 1000000 in
theorem List_spec (M : Nat → Option Obj) (p : Nat) (vs : VL) (L : List HP) (hn : vs.length ≤ 1000000) (hv : ∀ v ∈ vs, v.2.length ≤ 1000000) :
    CallsS Tryz.prog 162 [.pointer (some ⟨p, 0, none⟩)] (chainH M p vs :: roM M :: L)
      (fun v L' => ∃ (a : Option Addr) (c : Nat) (ovs : List OV), ovs.map OV.abs = vs ∧ v = .slice a ovs.length c ∧ L' = slO 130 2 a ovs.length c (ovs.flatMap OV.cells) :: bodV 21 (ovs.map fun o => (o.a, o.c, o.vec.map I32)) :: chainH M p vs :: roM M :: L) := by
  refine calls_chain fun a c ovs h1 h2 => ?_
  subst h1
  rw [List.length_map] at hn
  refine CallsS.addr a fun ha => ?_
  refine CallsS.of_body Tryz.func162 rfl rfl rfl ?_
  refine Q.r ?_; (repeat (intro b1; refine Q.r ?_))
  refine swp_loop (σ := Nat × Option Addr × Nat × List OV) (fun s => [(11, .slice a ovs.length c), (12, .int .i64 ovs.length), (3, .slice s.2.1 s.2.2.2.length s.2.2.1), (13, .int .i64 s.1)])
    (fun s => pt p (cl [.slice a ovs.length c] 262) :: slO 130 2 a ovs.length c (ovs.flatMap OV.cells) :: slO 130 2 s.2.1 s.2.2.2.length s.2.2.1 (s.2.2.2.flatMap OV.cells) :: bodV 21 (s.2.2.2.map fun o => (o.a, o.c, o.vec.map I32)) :: roM M :: L)
    (fun s => s.1 ≤ ovs.length ∧ s.2.2.2.map OV.abs = (ovs.take s.1).map OV.abs) (fun s => ovs.length - s.1) (0, none, 0, []) ⟨rfl, rfl, rfl, rfl, trivial⟩ ?_ ⟨by omega, by simp⟩ ?_
  · refine Ent.cons (Ent.cons (Ent.trans ?_ slO_nil))
    exact bodV_nil
  rintro ⟨k, a3, c3, us⟩ ⟨hk, hus⟩
  dsimp only at hk hus ⊢
  have hul : us.length = k := by
    have := congrArg List.length hus
    simp at this; omega
  by_cases hlt : k < ovs.length
  · obtain ⟨o, ho⟩ := mem_get hlt
    have hmo : o ∈ ovs := List.mem_of_getElem? ho
    rcases ha with ha | ⟨b, rfl⟩
    · omega
    have hr := chain_rd (p := p) (b := b) (c := c) (L := slO 130 2 a3 us.length c3 (us.flatMap OV.cells) :: bodV 21 (us.map fun o => (o.a, o.c, o.vec.map I32)) :: roM M :: L) ho
    refine Q.r ?_; (repeat (intro b1; refine Q.r ?_))
    refine S.cr rfl (ChCopy_spec o _ ((h2 o hmo).rd) (hv o.abs (List.mem_map_of_mem hmo))) ?_
    rintro _ _ ⟨a', c', rfl, rfl⟩
    refine Q.r ?_; (repeat (intro b1; refine Q.r ?_))
    refine S.app rfl rfl (SrcS.sl RdC.row (by rfl) (by rfl)) (by rfl) (by omega) (by omega) (fun a4 c4 => ?_)
    refine Q.r ?_; (repeat (intro b1; refine Q.r ?_))
    refine ⟨(k + 1, a4, c4, us ++ [⟨o.id, a', c', o.vec⟩]), ⟨rfl, rfl, congrArg some (by simp), rfl, trivial⟩, ?_, ⟨by dsimp only; omega, by dsimp only; rw [List.map_append, hus, take_snoc ho, List.map_append]; rfl⟩, by dsimp only; omega⟩
    dsimp only
    rw [len_snoc, flat_snoc, List.map_append, List.map_cons, List.map_nil]
    refine Ent.pick (Ent.pick (Ent.pick ?_))
    refine Ent.trans ?_ (bodV_snoc (m := o.vec.length) (by simp))
    exact Go.SX.Ent.go
  · have hke : k = ovs.length := by omega
    subst hke
    rw [List.take_length] at hus
    refine Q.r ?_; (repeat (intro b1; refine Q.r ?_))
    refine N.r1 (RV.tmp rfl RV.nil) ?_ ⟨a3, c3, us, hus, rfl, rfl⟩
    exact Ent.pick (Ent.pick (chain_shut h2))
end Go.Proofs.YtjidejcehmamkaaGreatDoor
namespace Go.Proofs.YtjidejcehmamkaaGreatDoor
open Go Go.SX
attribute [local irreducible] swp opsS thenS blockS retS CallsS St Ent YieldS anyS drawS
structure IV where
  txn : Int
  after : Int
  a : Option Addr
  c : Nat
  ops : List OV
abbrev IV.cells (i : IV) : List Value := [.int .u64 i.txn, .int .u64 i.after, .slice i.a i.ops.length i.c]
abbrev IV.val (i : IV) : Value := .agg #[.int .u64 i.txn, .int .u64 i.after, .slice i.a i.ops.length i.c]
abbrev IV.abs (i : IV) : Int × Int × VL := (i.txn, i.after, i.ops.map OV.abs)
def RdO (A : List HP) (a : Option Addr) (ops : List OV) : Prop := RdS A a ops.length 2 (ops.flatMap OV.cells) ∧ ∀ o ∈ ops, RdS A o.a o.vec.length 1 (o.vec.map I32)
theorem RdO.sub {A L : List HP} {a : Option Addr} {ops : List OV} (h : RdO A a ops) [s : Sub A L] : RdO L a ops := ⟨h.1.sub, fun o ho => (h.2 o ho).sub⟩
def okI (M : Nat → Option Obj) (i : IV) : Prop := SlM M i.a i.ops.length 2 (i.ops.flatMap OV.cells) ∧ okR M i.ops
theorem okI.rd {M : Nat → Option Obj} {i : IV} (h : okI M i) {L : List HP} [HasM M L] : RdO L i.a i.ops := ⟨h.1.rd, fun o ho => (h.2 o ho).rd⟩
theorem okI.mono {M M' : Nat → Option Obj} {i : IV} (h : okI M i) (hl : leM M M') : okI M' i := ⟨h.1.mono hl, fun o ho => (h.2 o ho).mono hl⟩
def holdsV (ops : VL) (id : Int) : Bool := ops.any fun o => decide (o.1 = id)
theorem holds_abs (ops : List OV) (id : Int) : holdsV (ops.map OV.abs) id = ops.any fun o => decide (o.id = id) := by simp [holdsV, List.any_map]; rfl
instance : Enters Tryz.prog 178 := en178
instance : Enters Tryz.prog 157 := en157
theorem holds1_spec (b : Nat) (id : Int) (o : OV) (A : List HP) : CallsS Tryz.prog 178 ([] ++ [o.val] ++ [.pointer (some ⟨b, 0, none⟩)]) (pt b (cl [.int .u64 id] 30) :: A) (fun v L' => v = .bool (decide (o.id = id)) ∧ L' = pt b (cl [.int .u64 id] 30) :: A) := by
  refine CallsS.of_body Tryz.func178 rfl rfl rfl ?_
  refine Q.r ?_; (repeat (intro b1; refine Q.r ?_))
  exact N.r1 (RV.tmp rfl RV.nil) (Ent.drop (Ent.refl _)) ⟨rfl, rfl⟩
theorem holds_spec (i : IV) (id : Int) (A : List HP) (h : RdO A i.a i.ops) (hn : i.ops.length ≤ 1000000) :
    CallsS Tryz.prog 157 [i.val, .int .u64 id] A (fun v L' => v = .bool (holdsV (i.ops.map OV.abs) id) ∧ L' = A) := by
  refine CallsS.of_body Tryz.func157 rfl rfl rfl ?_
  refine Q.r ?_; (repeat (intro b1; refine Q.r ?_))
  refine S.y (Y.mf rfl rfl) ?_
  refine S.cr rfl (HasO_spec 178 [] [.pointer (some ⟨b1, 0, none⟩)] (fun o => decide (o.id = id)) i.a i.c i.ops _ h.1.sub (by omega) (fun o ho => holds1_spec b1 id o _)) ?_
  rintro _ _ ⟨rfl, rfl⟩
  refine Q.r ?_; (repeat (intro b1; refine Q.r ?_))
  exact N.r1 (RV.tmp rfl RV.nil) (Ent.drop (Ent.drop (Ent.refl _))) ⟨by rw [holds_abs], rfl⟩
def badO (dim : Int) (o : Int × List Int) : Bool := decide (1099511627776 < o.1) || (decide (0 < o.2.length) && (!rightV o.2 || decide ((o.2.length : Int) ≠ dim)))
def checkV (dim : Int) (ops : VL) : Int :=
  if dim < 1 ∨ 8 < dim then 1 else if ops.length = 0 then 2 else if 16 < ops.length then 3 else if ops.any (badO dim) then 4 else if (ops.map (·.1)).Nodup then 0 else 7
theorem lkL_put {κ α : Type} [DecidableEq κ] {m : List (κ × α)} (h : keysOK m) (x y : κ) (a : α) : lkL (putL m x a) y = if y = x then some a else lkL m y := by
  rcases keyCase m h x with ⟨p, b, q, rfl, hp, hq⟩ | hn
  · rw [putL_mid hp hq]
    by_cases hxy : y = x
    · subst hxy; rw [if_pos rfl, lkL_mid hp]
    · rw [if_neg hxy]
      unfold lkL
      simp [List.find?_append, List.find?_cons, Ne.symm hxy]
  · rw [putL_none hn]
    by_cases hxy : y = x
    · subst hxy
      rw [if_pos rfl]
      have : m.find? (fun u => decide (u.1 = y)) = none := by simp; exact fun a b hh => hn (a, b) hh
      simp [lkL, List.find?_append, this]
    · rw [if_neg hxy]
      unfold lkL
      simp [List.find?_append, List.find?_cons, Ne.symm hxy]
set_option maxHeartbeats 2000000 in
theorem Check_spec (dim : Int) (a : Option Addr) (c : Nat) (ops : List OV) (A : List HP) (h : RdO A a ops) (hn : ops.length ≤ 1000000) (hv : ∀ o ∈ ops, o.vec.length ≤ 1000000) (hd : -9223372036854775808 ≤ dim ∧ dim ≤ 9223372036854775807) :
    CallsS Tryz.prog 68 [.int .i64 dim, .slice a ops.length c] A (fun v L' => v = .int .i64 (checkV dim (ops.map OV.abs)) ∧ L' = A) := by
  unfold checkV
  rw [List.length_map]
  refine CallsS.of_body Tryz.func68 rfl rfl rfl ?_
  by_cases h1 : dim < 1 ∨ 8 < dim
  · rw [if_pos h1]
    by_cases h1a : dim < 1
    · refine Q.r ?_; (repeat (intro b1; refine Q.r ?_))
      exact N.r1 (RV.tmp rfl RV.nil) (Ent.refl _) ⟨rfl, rfl⟩
    · refine Q.r ?_; (repeat (intro b1; refine Q.r ?_))
      exact N.r1 (RV.tmp rfl RV.nil) (Ent.refl _) ⟨rfl, rfl⟩
  rw [if_neg h1]
  by_cases h2 : ops.length = 0
  · rw [if_pos h2]
    refine Q.r ?_; (repeat (intro b1; refine Q.r ?_))
    exact N.r1 (RV.tmp rfl RV.nil) (Ent.refl _) ⟨rfl, rfl⟩
  rw [if_neg h2]
  by_cases h3 : 16 < ops.length
  · rw [if_pos h3]
    refine Q.r ?_; (repeat (intro b1; refine Q.r ?_))
    exact N.r1 (RV.tmp rfl RV.nil) (Ent.refl _) ⟨rfl, rfl⟩
  rw [if_neg h3]
  refine Q.r ?_; (repeat (intro b1; refine Q.r ?_))
  refine S.mkm U64 Value.bool (fun b => ?_)
  refine Q.r ?_; (repeat (intro b1; refine Q.r ?_))
  refine swp_loop (σ := Nat × Bool × List (Int × Bool)) (fun s => [(0, .int .i64 dim), (5, .map (some b)), (25, .slice a ops.length c), (26, .int .i64 ops.length), (6, .bool s.2.1), (27, .int .i64 s.1)])
    (fun s => mpO U64 Value.bool b s.2.2 :: A) (fun s => s.1 ≤ ops.length ∧ keysOK s.2.2 ∧ (∀ y, lkL s.2.2 y = if y ∈ (ops.take s.1).map (·.id) then some true else none) ∧ s.2.1 = !decide (((ops.take s.1).map (·.id)).Nodup) ∧ (ops.take s.1).any (fun o => badO dim o.abs) = false)
    (fun s => ops.length - s.1) (0, false, []) ⟨rfl, rfl, rfl, rfl, rfl, rfl, trivial⟩ (Ent.refl _) ⟨by omega, by simp [keysOK], by intro y; simp [lkL], by simp, by simp⟩ ?_
  rintro ⟨k, tw, m⟩ ⟨k1, k2, k3, k4, k5⟩
  dsimp only at k1 k2 k3 k4 k5 ⊢
  by_cases hlt : k < ops.length
  · obtain ⟨o, ho⟩ := mem_get hlt
    have hmo : o ∈ ops := List.mem_of_getElem? ho
    have hlen := hv o hmo
    obtain ⟨b2, o2, rfl, hr⟩ := RdS.elem (g := OV.cells) (fun _ => rfl) h.1 ho rfl
    have hbad : badO dim o.abs = true → (ops.map OV.abs).any (badO dim) = true := fun hb => List.any_eq_true.2 ⟨o.abs, List.mem_map_of_mem hmo, hb⟩
    have hall : (ops.map OV.abs).any (badO dim) = true ↔ (ops.any fun o => badO dim o.abs) = true := by rw [List.any_map]; rfl
    repeat (first | (refine GQ.y ?_; refine Q.y ?_) | refine Q.go ?_ | (refine GQ.g ?_; refine Q.gq ?_) | (refine GQ.s ?_; refine Q.st ?_) | (refine GQ.a ?_; refine Q.al (fun b1 => ?_)))
    refine Q.ct rfl ?_
    repeat (first | (refine GQ.y ?_; refine Q.y ?_) | refine Q.go ?_ | (refine GQ.g ?_; refine Q.gq ?_) | (refine GQ.s ?_; refine Q.st ?_) | (refine GQ.a ?_; refine Q.al (fun b1 => ?_)))
    refine opsS_cutT (σ := Bool) (fun s => [(0, .int .i64 dim), (5, .map (some b)), (25, .slice (some ⟨b2, o2, none⟩) ops.length c), (26, .int .i64 ops.length), (6, .bool tw), (27, .int .i64 k), (8, .pointer (some ⟨b1, 0, none⟩)), (52, .bool s)])
      (fun s => pt b1 (cl o.cells 46) :: mpO U64 Value.bool b m :: A) (fun s => s = badO dim o.abs) ?_ ?_
    · by_cases c1 : 1099511627776 < o.id
      · refine Q.r ?_; (repeat (intro b1; refine Q.r ?_))
        exact ⟨true, ⟨rfl, rfl, rfl, rfl, rfl, rfl, rfl, rfl, trivial⟩, Ent.refl _, by simp [badO, c1]⟩
      by_cases c2 : 0 < o.vec.length
      · refine Q.r ?_; (repeat (intro b1; refine Q.r ?_))
        refine S.cr rfl (Right_spec o.a o.c o.vec _ ((h.2 o hmo).sub) (by omega)) ?_
        rintro _ _ ⟨rfl, rfl⟩
        cases hrt : rightV o.vec with
        | false =>
          refine Q.r ?_; (repeat (intro b1; refine Q.r ?_))
          exact ⟨true, ⟨rfl, rfl, rfl, rfl, rfl, rfl, rfl, rfl, trivial⟩, Ent.refl _, by simp [badO, c1, c2, hrt]⟩
        | true =>
          refine Q.r ?_; (repeat (intro b1; refine Q.r ?_))
          exact ⟨_, ⟨rfl, rfl, rfl, rfl, rfl, rfl, rfl, rfl, trivial⟩, Ent.refl _, by simp [badO, c1, c2, hrt]⟩
      · refine Q.r ?_; (repeat (intro b1; refine Q.r ?_))
        exact ⟨false, ⟨rfl, rfl, rfl, rfl, rfl, rfl, rfl, rfl, trivial⟩, Ent.refl _, by simp [badO, c1, c2]⟩
    intro s hs
    cases s with
    | true =>
      rw [if_pos (hbad hs.symm)]
      refine Q.r ?_; (repeat (intro b1; refine Q.r ?_))
      exact N.r1 (RV.tmp rfl RV.nil) (Ent.drop (Ent.drop (Ent.refl _))) ⟨rfl, rfl⟩
    | false =>
      have hex : swp Tryz.prog Tryz.f68.ntmps Code.skip (fun _ _ _ => True) e0 [] := swp_skip trivial
      clear hex hbad hall
      have htk : (ops.take (k + 1)).map (·.id) = (ops.take k).map (·.id) ++ [o.id] := by rw [take_snoc ho, List.map_append]; rfl
      have hnd : ((ops.take (k + 1)).map (·.id)).Nodup ↔ ((ops.take k).map (·.id)).Nodup ∧ o.id ∉ (ops.take k).map (·.id) := by
        rw [htk, List.nodup_append]
        constructor
        · rintro ⟨a1, _, a2⟩
          exact ⟨a1, fun hm => a2 _ hm _ (by simp) rfl⟩
        · rintro ⟨a1, a2⟩
          exact ⟨a1, by simp, fun x hx y hy e => by simp at hy; subst hy; exact a2 (e ▸ hx)⟩
      have hm' : ∀ y, lkL (putL m o.id true) y = if y ∈ (ops.take (k + 1)).map (·.id) then some true else none := fun y => by
        rw [lkL_put k2, htk, k3]
        by_cases hy : y = o.id
        · subst hy; simp
        · simp [hy]
      have hb5 : (ops.take (k + 1)).any (fun o => badO dim o.abs) = false := by
        rw [take_snoc ho, List.any_append, k5, List.any_cons, ← hs]; rfl
      cases tw with
      | true =>
        have hd0 : ¬ ((ops.take k).map (·.id)).Nodup := fun hh => by rw [decide_eq_true hh] at k4; cases k4
        repeat (first | (refine GQ.y ?_; refine Q.y ?_) | refine Q.go ?_ | (refine GQ.g ?_; refine Q.gq ?_) | (refine GQ.s ?_; refine Q.st ?_) | (refine GQ.a ?_; refine Q.al (fun b1 => ?_)))
        refine S.mu rfl rfl rfl ?_
        repeat (first | (refine GQ.y ?_; refine Q.y ?_) | refine Q.go ?_ | (refine GQ.g ?_; refine Q.gq ?_) | (refine GQ.s ?_; refine Q.st ?_) | (refine GQ.a ?_; refine Q.al (fun b1 => ?_)))
        exact ⟨(k + 1, true, putL m o.id true), ⟨rfl, rfl, rfl, rfl, rfl, rfl, trivial⟩, Ent.drop (Ent.refl _), ⟨by dsimp only; omega, putL_ok k2 _ _, hm', by rw [decide_eq_false (fun hh => hd0 (hnd.1 hh).1)]; rfl, hb5⟩, by dsimp only; omega⟩
      | false =>
        have hd0 : ((ops.take k).map (·.id)).Nodup := by
          by_cases hh : ((ops.take k).map (·.id)).Nodup
          · exact hh
          · rw [decide_eq_false hh] at k4; cases k4
        repeat (first | (refine GQ.y ?_; refine Q.y ?_) | refine Q.go ?_ | (refine GQ.g ?_; refine Q.gq ?_) | (refine GQ.s ?_; refine Q.st ?_) | (refine GQ.a ?_; refine Q.al (fun b1 => ?_)))
        refine S.y (Y.lk false rfl rfl (fun w => Tryz.zeroValue4 w)) ?_
        rw [k3]
        by_cases hin : o.id ∈ (ops.take k).map (·.id)
        · rw [if_pos hin]
          repeat (first | (refine GQ.y ?_; refine Q.y ?_) | refine Q.go ?_ | (refine GQ.g ?_; refine Q.gq ?_) | (refine GQ.s ?_; refine Q.st ?_) | (refine GQ.a ?_; refine Q.al (fun b1 => ?_)))
          refine S.mu rfl rfl rfl ?_
          repeat (first | (refine GQ.y ?_; refine Q.y ?_) | refine Q.go ?_ | (refine GQ.g ?_; refine Q.gq ?_) | (refine GQ.s ?_; refine Q.st ?_) | (refine GQ.a ?_; refine Q.al (fun b1 => ?_)))
          exact ⟨(k + 1, true, putL m o.id true), ⟨rfl, rfl, rfl, rfl, rfl, rfl, trivial⟩, Ent.drop (Ent.refl _), ⟨by dsimp only; omega, putL_ok k2 _ _, hm', by rw [decide_eq_false (fun hh => (hnd.1 hh).2 hin)]; rfl, hb5⟩, by dsimp only; omega⟩
        · rw [if_neg hin]
          repeat (first | (refine GQ.y ?_; refine Q.y ?_) | refine Q.go ?_ | (refine GQ.g ?_; refine Q.gq ?_) | (refine GQ.s ?_; refine Q.st ?_) | (refine GQ.a ?_; refine Q.al (fun b1 => ?_)))
          refine S.mu rfl rfl rfl ?_
          repeat (first | (refine GQ.y ?_; refine Q.y ?_) | refine Q.go ?_ | (refine GQ.g ?_; refine Q.gq ?_) | (refine GQ.s ?_; refine Q.st ?_) | (refine GQ.a ?_; refine Q.al (fun b1 => ?_)))
          exact ⟨(k + 1, false, putL m o.id true), ⟨rfl, rfl, rfl, rfl, rfl, rfl, trivial⟩, Ent.drop (Ent.refl _), ⟨by dsimp only; omega, putL_ok k2 _ _, hm', by rw [decide_eq_true (hnd.2 ⟨hd0, hin⟩)]; rfl, hb5⟩, by dsimp only; omega⟩
  · have hke : k = ops.length := by omega
    subst hke
    rw [List.take_length] at k4 k5
    rw [if_neg (by rw [List.any_map]; show ¬ (ops.any fun o => badO dim o.abs) = true; rw [k5]; exact Bool.false_ne_true)]
    have hmm : (ops.map OV.abs).map (·.1) = ops.map (·.id) := by rw [List.map_map]; rfl
    rw [hmm]
    by_cases hnd : (ops.map (·.id)).Nodup
    · rw [if_pos hnd]
      simp only [hnd, decide_true, Bool.not_true] at k4
      subst k4
      refine Q.r ?_; (repeat (intro b1; refine Q.r ?_))
      exact N.r1 (RV.tmp rfl RV.nil) (Ent.drop (Ent.refl _)) ⟨rfl, rfl⟩
    · rw [if_neg hnd]
      simp only [hnd, decide_false, Bool.not_false] at k4
      subst k4
      refine Q.r ?_; (repeat (intro b1; refine Q.r ?_))
      exact N.r1 (RV.tmp rfl RV.nil) (Ent.drop (Ent.refl _)) ⟨rfl, rfl⟩
end Go.Proofs.YtjidejcehmamkaaGreatDoor
namespace Go.SX
open Go
section
variable {P : Program} {n : Nat} {ops rest : List Oper} {Q : Post} {f : Env} {A L : List HP} {d : Tmp} {ty : TypeId} {pos : String} {af : Array Edge}
theorem Y.or {x y : Operand} {t t' : TypeId} {k : IntKind} {a b : Int} (hx : ev f x = some (.int k a)) (hy : ev f y = some (.int k b)) : YieldS P n ops ⟨some d, .binOp .or t x y t', ty, pos, af, none⟩ f A ((.int k (k.wrap ((BitVec.ofInt k.bits a) ||| (BitVec.ofInt k.bits b)).toNat))) := Y.of (fun _ w s => by simp [execOp, s.eval hx, s.eval hy, eqGuard, binOp, Op.intBits])
theorem Y.shrI {x y : Operand} {t t' : TypeId} {k k' : IntKind} {a : Int} {b : Nat} (hx : ev f x = some (.int k a)) (hy : ev f y = some (.int k' (b : Int))) (hb : b ≤ k.bits) : YieldS P n ops ⟨some d, .binOp .shr t x y t', ty, pos, af, none⟩ f A (.int k (a.fdiv (2 ^ b))) :=
  Y.of (fun _ w s => by
    have e1 : ¬ ((b : Int) < 0) := by omega
    have e2 : Min.min b k.bits = b := Nat.min_eq_left hb
    simp [execOp, s.eval hx, s.eval hy, eqGuard, binOp, Op.shift, e1, e2])
theorem Y.shlI {x y : Operand} {t t' : TypeId} {k k' : IntKind} {a : Int} {b : Nat} (hx : ev f x = some (.int k a)) (hy : ev f y = some (.int k' (b : Int))) (hb : b ≤ k.bits) : YieldS P n ops ⟨some d, .binOp .shl t x y t', ty, pos, af, none⟩ f A (.int k (k.wrap (a * 2 ^ b))) :=
  Y.of (fun _ w s => by
    have e1 : ¬ ((b : Int) < 0) := by omega
    have e2 : Min.min b k.bits = b := Nat.min_eq_left hb
    have e4 : (Op.shift .shl k a k' (b : Int)).run P w = .ok (.int k (k.wrap (a * 2 ^ b))) w := by
      unfold Op.shift
      rw [if_neg e1]
      simp only [Int.toNat_natCast, e2, Sem.run_pure]
    simp [execOp, s.eval hx, s.eval hy, eqGuard, binOp, e4])
end
end Go.SX
namespace Go.Proofs.YtjidejcehmamkaaGreatDoor
open Go Go.SX
attribute [local irreducible] swp opsS thenS blockS retS CallsS St Ent YieldS anyS drawS
def numB (n : Nat) : List UInt8 := if h : n < 128 then [UInt8.ofNat n] else UInt8.ofNat (n % 128 + 128) :: numB (n / 128)
termination_by n
theorem numB_lo {n : Nat} (h : n < 128) : numB n = [UInt8.ofNat n] := by rw [numB, dif_pos h]
theorem numB_hi {n : Nat} (h : ¬ n < 128) : numB n = UInt8.ofNat (n % 128 + 128) :: numB (n / 128) := by rw [numB, dif_neg h]
def numI (z : Int) : List UInt8 := if z < 0 then [UInt8.ofNat (z % 256).toNat] else numB z.toNat
abbrev wP (w : Nat) (a : Option Addr) (n c : Nat) : HP := pt w (cl [.slice a n c] 121)
def wH (w : Nat) (bs : List UInt8) : HP := exH fun x : Option Addr × Nat => allH [wP w x.1 bs.length x.2, slO 5 1 x.1 bs.length x.2 (bs.map B)]
theorem wH_shut {w : Nat} {a : Option Addr} {c : Nat} {bs : List UInt8} {L : List HP} : Ent (wP w a bs.length c :: slO 5 1 a bs.length c (bs.map B) :: L) (wH w bs :: L) :=
  Ent.trans (Ent.shut_all (L := [_, _])) (Ent.shut_ex (P := fun x : Option Addr × Nat => allH [wP w x.1 bs.length x.2, slO 5 1 x.1 bs.length x.2 (bs.map B)]) (a, c))
theorem calls_w {g : FuncId} {args : List Value} {R : Value → List HP → Prop} {w : Nat} {bs : List UInt8} {L : List HP} (h : ∀ a c, CallsS Tryz.prog g args (wP w a bs.length c :: slO 5 1 a bs.length c (bs.map B) :: L) R) : CallsS Tryz.prog g args (wH w bs :: L) R :=
  CallsS.ex fun x => CallsS.all (h x.1 x.2)
theorem u8w (z : Int) : IntKind.u8.wrap z = z % 256 := by simp [IntKind.wrap, IntKind.bits, IntKind.signed]
set_option maxRecDepth 100000 in
theorem u8or (m : Nat) : IntKind.u8.wrap (((BitVec.ofInt IntKind.u8.bits (IntKind.u8.wrap (m : Int))) ||| (BitVec.ofInt IntKind.u8.bits 128)).toNat : Int) = ((UInt8.ofNat (m % 128 + 128)).toNat : Int) := by
  have e1 : IntKind.u8.wrap (m : Int) = ((m % 256 : Nat) : Int) := by
    rw [u8w]; norm_cast
  have e2 : m % 128 = m % 256 % 128 := by omega
  rw [e1, e2]
  have hlt : m % 256 < 256 := Nat.mod_lt _ (by decide)
  generalize m % 256 = x at hlt
  show IntKind.u8.wrap (((BitVec.ofInt 8 (x : Int)) ||| (BitVec.ofInt 8 128)).toNat : Int) = _
  rw [BitVec.toNat_or, show (BitVec.ofInt 8 (x : Int)).toNat = x by simp; omega, show (BitVec.ofInt 8 128).toNat = 128 by decide]
  have e3 : x ||| 128 = x % 128 + 128 := (by decide : ∀ x, x < 256 → x ||| 128 = x % 128 + 128) x hlt
  rw [e3, wrap_u8 (by omega) (by omega), UInt8.toNat_ofNat']
  omega
theorem u8lo (z : Int) : IntKind.u8.wrap z = ((UInt8.ofNat (z % 256).toNat).toNat : Int) := by
  rw [u8w, UInt8.toNat_ofNat']
  omega
theorem numI_lo {z : Int} (h : z < 128) : numI z = [UInt8.ofNat (z % 256).toNat] := by
  unfold numI
  split
  · rfl
  · rw [numB_lo (by omega)]
    have : (z % 256).toNat = z.toNat := by omega
    rw [this]
theorem numI_hi {m : Nat} (h : 128 ≤ m) : numI (m : Int) = UInt8.ofNat (m % 128 + 128) :: numI ((m / 2 ^ 7 : Nat) : Int) := by
  unfold numI
  rw [if_neg (by omega), if_neg (by omega), Int.toNat_natCast, Int.toNat_natCast, numB_hi (by omega)]
theorem numB_len : ∀ (k n : Nat), n < 128 ^ (k + 1) → (numB n).length ≤ k + 1
  | 0, n, h => by rw [numB_lo (by simpa using h)]; simp
  | k + 1, n, h => by
    by_cases hl : n < 128
    · rw [numB_lo hl]; simp
    · rw [numB_hi hl, List.length_cons]
      have h2 : n / 128 < 128 ^ (k + 1) := by
        rw [Nat.div_lt_iff_lt_mul (by decide)]
        rw [Nat.pow_succ] at h; exact h
      have := numB_len k (n / 128) h2
      omega
theorem numI_len {z : Int} (h : z ≤ 18446744073709551615) : (numI z).length ≤ 10 := by
  unfold numI
  split
  · simp
  · exact numB_len 9 _ (by have : (128 : Nat) ^ (9 + 1) = 1180591620717411303424 := by decide
                           rw [this]; omega)
theorem B_one (xs : List UInt8) : (xs.map B).all (·.oneCell') = true := by simp [B, Value.oneCell']
set_option maxHeartbeats 1000000 in
theorem wnum_spec (w : Nat) (bs : List UInt8) (z : Int) (L : List HP) (hb : bs.length ≤ 100000000000000) (hz : z ≤ 18446744073709551615) :
    CallsS Tryz.prog 122 [.pointer (some ⟨w, 0, none⟩), .int .u64 z] (wH w bs :: L) (fun r L' => r = .tuple #[] ∧ L' = wH w (bs ++ numI z) :: L) := by
  refine calls_w fun a c => ?_
  have hnl := numI_len hz
  refine CallsS.of_body Tryz.func122 rfl rfl rfl ?_
  refine Q.r ?_; (repeat (intro b1; refine Q.r ?_))
  refine swp_cutB (σ := Int × List UInt8 × Option Addr × Nat) (fun s => [(0, .pointer (some ⟨w, 0, none⟩)), (1, .int .u64 s.1)]) (fun s => wP w s.2.2.1 s.2.1.length s.2.2.2 :: slO 5 1 s.2.2.1 s.2.1.length s.2.2.2 (s.2.1.map B) :: L)
    (fun s => s.2.1 ++ numI s.1 = bs ++ numI z ∧ s.1 < 128 ∧ s.2.1.length ≤ 100000000000010) ?_ ?_
  · refine swp_loop (σ := Int × List UInt8 × Option Addr × Nat) (fun s => [(0, .pointer (some ⟨w, 0, none⟩)), (1, .int .u64 s.1)]) (fun s => wP w s.2.2.1 s.2.1.length s.2.2.2 :: slO 5 1 s.2.2.1 s.2.1.length s.2.2.2 (s.2.1.map B) :: L)
      (fun s => s.2.1 ++ numI s.1 = bs ++ numI z) (fun s => s.1.toNat) (z, bs, a, c) ⟨rfl, rfl, trivial⟩ (Ent.refl _) rfl ?_
    rintro ⟨y, us, a2, c2⟩ he
    dsimp only at he ⊢
    have hul : us.length ≤ 100000000000010 := by
      have := congrArg List.length he
      rw [List.length_append, List.length_append] at this
      omega
    by_cases h : 128 ≤ y
    · obtain ⟨m, rfl⟩ : ∃ m : Nat, y = (m : Int) := ⟨y.toNat, by omega⟩
      refine Q.r ?_; (repeat (intro b1; refine Q.r ?_))
      refine S.y (Y.cvi rfl) ?_
      refine S.y (Y.or rfl rfl) ?_
      rw [u8or]
      refine Q.r ?_; (repeat (intro b1; refine Q.r ?_))
      refine S.app rfl rfl (SrcS.sl RdC.row (by rfl) (by rfl)) (by rfl) (by omega) (by omega) (fun a7 c7 => ?_)
      refine Q.r ?_; (repeat (intro b1; refine Q.r ?_))
      refine S.y (Y.shr rfl rfl (by decide)) ?_
      refine Q.r ?_; (repeat (intro b1; refine Q.r ?_))
      refine ⟨(((m / 2 ^ 7 : Nat) : Int), us ++ [UInt8.ofNat (m % 128 + 128)], a7, c7), ⟨rfl, rfl, trivial⟩, ?_, ?_, ?_⟩
      · dsimp only
        rw [len_snoc, List.map_append]
        exact Go.SX.Ent.go
      · dsimp only
        rw [← he, numI_hi (m := m) (by omega), List.append_assoc]; rfl
      · dsimp only
        have : m / 2 ^ 7 < m := Nat.div_lt_self (by omega) (by decide)
        omega
    · refine Q.r ?_; (repeat (intro b1; refine Q.r ?_))
      exact ⟨(y, us, a2, c2), ⟨rfl, rfl, trivial⟩, Ent.refl _, he, by dsimp only; omega, hul⟩
  · rintro ⟨y, us, a2, c2⟩ ⟨he, hy, hul⟩
    dsimp only at he hy hul ⊢
    refine Q.r ?_; (repeat (intro b1; refine Q.r ?_))
    refine S.y (Y.cvi rfl) ?_
    rw [u8lo]
    refine Q.r ?_; (repeat (intro b1; refine Q.r ?_))
    refine S.app rfl rfl (SrcS.sl RdC.row (by rfl) (by rfl)) (by rfl) (by omega) (by omega) (fun a7 c7 => ?_)
    refine Q.r ?_; (repeat (intro b1; refine Q.r ?_))
    refine N.n0 RV.nil ?_ ⟨rfl, rfl⟩
    rw [← he, numI_lo hy]
    refine Ent.trans ?_ (wH_shut (a := a7) (c := c7))
    rw [len_snoc, List.map_append]
    exact Go.SX.Ent.go
theorem wNums_spec (w : Nat) (bs : List UInt8) (a : Option Addr) (c : Nat) (xs : List Int) (L : List HP) (h : RdS L a xs.length 1 (xs.map U64)) (hz : ∀ z ∈ xs, z ≤ 18446744073709551615) (hb : bs.length + 10 * xs.length ≤ 100000000000000) :
    CallsS Tryz.prog 53 [.pointer (some ⟨w, 0, none⟩), .slice a xs.length c] (wH w bs :: L) (fun r L' => r = .pointer (some ⟨w, 0, none⟩) ∧ L' = wH w (bs ++ xs.flatMap numI) :: L) := by
  refine CallsS.of_body Tryz.func53 rfl rfl rfl ?_
  refine Q.r ?_; (repeat (intro b1; refine Q.r ?_))
  refine swp_cutB (σ := Unit) (fun _ => [(0, .pointer (some ⟨w, 0, none⟩))]) (fun _ => wH w (bs ++ xs.flatMap numI) :: L) (fun _ => True) ?_ ?_
  · refine swp_loop (σ := Nat) (fun k => [(0, .pointer (some ⟨w, 0, none⟩)), (9, .slice a xs.length c), (10, .int .i64 xs.length), (11, .int .i64 k)]) (fun k => wH w (bs ++ (xs.take k).flatMap numI) :: L)
      (fun k => k ≤ xs.length) (fun k => xs.length - k) 0 ⟨rfl, rfl, rfl, rfl, trivial⟩ (by simp only [List.take_zero, List.flatMap_nil, List.append_nil]; exact Ent.refl _) (by omega) ?_
    intro k hk
    have hll : ∀ k, k ≤ xs.length → ((xs.take k).flatMap numI).length ≤ 10 * k := fun k => by
      induction k with
      | zero => intro _; simp
      | succ k ih =>
        intro hk
        obtain ⟨z, hz1⟩ := mem_get (l := xs) (k := k) (by omega)
        rw [take_snoc hz1, List.flatMap_append, List.length_append]
        have := ih (by omega)
        have := numI_len (hz z (List.mem_of_getElem? hz1))
        simp only [List.flatMap_cons, List.flatMap_nil, List.append_nil]; omega
    by_cases hlt : k < xs.length
    · obtain ⟨z, hz1⟩ := mem_get hlt
      have hzl := hz z (List.mem_of_getElem? hz1)
      have hrs : RdS (wH w (bs ++ (xs.take k).flatMap numI) :: L) a xs.length 1 (xs.flatMap cU) := by rw [flat_U]; exact h.sub
      obtain ⟨b, o, hia, hr⟩ := RdS.elem (g := cU) (fun _ => rfl) hrs hz1 rfl
      clear hrs
      rw [hia]
      have := hll k hk
      refine Q.r ?_; (repeat (intro b1; refine Q.r ?_))
      refine S.cr rfl (wnum_spec w _ z _ (by rw [List.length_append]; omega) hzl) ?_
      rintro _ _ ⟨rfl, rfl⟩
      refine Q.r ?_; (repeat (intro b1; refine Q.r ?_))
      refine ⟨k + 1, ⟨rfl, rfl, rfl, rfl, trivial⟩, ?_, by omega, by omega⟩
      rw [take_snoc hz1, List.flatMap_append, List.append_assoc]
      simp only [List.flatMap_cons, List.flatMap_nil, List.append_nil]
      exact Ent.refl _
    · have hke : k = xs.length := by omega
      subst hke
      rw [List.take_length]
      refine Q.r ?_; (repeat (intro b1; refine Q.r ?_))
      exact ⟨(), ⟨rfl, trivial⟩, Ent.refl _, trivial⟩
  · rintro _ _
    refine Q.r ?_; (repeat (intro b1; refine Q.r ?_))
    exact N.r1 (RV.tmp rfl RV.nil) (Ent.refl _) ⟨rfl, rfl⟩
def zzI (n : Int) : Int := IntKind.u64.wrap (IntKind.u32.wrap (((BitVec.ofInt IntKind.u32.bits (IntKind.u32.wrap (IntKind.i32.wrap (n * 2 ^ 1)))) ^^^ (BitVec.ofInt IntKind.u32.bits (IntKind.u32.wrap (n.fdiv (2 ^ 31))))).toNat : Int))
theorem u64_le (z : Int) : IntKind.u64.wrap z ≤ 18446744073709551615 := by rw [IntKind.wrap_u64]; omega
def vecI (v : List Int) : List UInt8 := numI (v.length : Int) ++ v.flatMap fun n => numI (zzI n)
set_option maxHeartbeats 1000000 in
theorem wVec_spec (w : Nat) (bs : List UInt8) (b o : Nat) (va : Option Addr) (vc c : Nat) (v : List Int) (L : List HP) (h : RdC L b o [.slice va v.length vc]) (hv : RdS L va v.length 1 (v.map I32)) (hb : bs.length + 10 + 10 * v.length ≤ 100000000000000) :
    CallsS Tryz.prog 55 [.pointer (some ⟨w, 0, none⟩), .slice (some ⟨b, o, none⟩) 1 c] (wH w bs :: L) (fun r L' => r = .pointer (some ⟨w, 0, none⟩) ∧ L' = wH w (bs ++ vecI v) :: L) := by
  have hll : ∀ k, k ≤ v.length → ((v.take k).flatMap fun n => numI (zzI n)).length ≤ 10 * k := fun k => by
    induction k with
    | zero => intro _; simp
    | succ k ih =>
      intro hk
      obtain ⟨z, hz1⟩ := mem_get (l := v) (k := k) (by omega)
      rw [take_snoc hz1, List.flatMap_append, List.length_append]
      have := ih (by omega)
      have : (numI (zzI z)).length ≤ 10 := numI_len (u64_le _)
      simp only [List.flatMap_cons, List.flatMap_nil, List.append_nil]; omega
  have hl1 := numI_len (z := (v.length : Int)) (by omega)
  refine CallsS.of_body Tryz.func55 rfl rfl rfl ?_
  refine Q.r ?_; (repeat (intro b1; refine Q.r ?_))
  refine swp_cutB (σ := Unit) (fun _ => [(0, .pointer (some ⟨w, 0, none⟩))]) (fun _ => wH w (bs ++ vecI v) :: L) (fun _ => True) ?_ ?_
  · refine swp_loop (σ := Nat) (fun k => [(0, .pointer (some ⟨w, 0, none⟩)), (11, .slice (some ⟨b, o, none⟩) 1 c), (12, .int .i64 1), (13, .int .i64 k)]) (fun k => wH w (if k = 0 then bs else bs ++ vecI v) :: L)
      (fun k => k ≤ 1) (fun k => 1 - k) 0 ⟨rfl, rfl, rfl, rfl, trivial⟩ (Ent.refl _) (by omega) ?_
    intro k hk
    by_cases hk0 : k = 0
    · subst hk0
      rw [if_pos rfl]
      have hr : RdC (wH w bs :: L) b (o + 0 * 1) [.slice va v.length vc] := by
        rw [Nat.zero_mul, Nat.add_zero]; exact h.sub
      refine Q.r ?_; (repeat (intro b1; refine Q.r ?_))
      refine S.y (Y.cvi rfl) ?_
      rw [wrap_u64 (by omega) (by omega)]
      refine S.cr rfl (wnum_spec w _ (v.length : Int) _ (by omega) (by omega)) ?_
      rintro _ _ ⟨rfl, rfl⟩
      refine Q.r ?_; (repeat (intro b1; refine Q.r ?_))
      refine swp_loop (σ := Nat) (fun m => [(0, .pointer (some ⟨w, 0, none⟩)), (11, .slice (some ⟨b, o, none⟩) 1 c), (12, .int .i64 1), (13, .int .i64 0), (22, .slice va v.length vc), (23, .int .i64 v.length), (24, .int .i64 m)]) (fun m => wH w (bs ++ numI v.length ++ (v.take m).flatMap fun n => numI (zzI n)) :: L)
        (fun m => m ≤ v.length) (fun m => v.length - m) 0 ⟨rfl, rfl, rfl, rfl, rfl, rfl, rfl, trivial⟩ (by simp only [List.take_zero, List.flatMap_nil, List.append_nil]; exact Ent.refl _) (by omega) ?_
      intro m hm
      by_cases hmt : m < v.length
      · obtain ⟨z, hz1⟩ := mem_get hmt
        have hrs : RdS (wH w (bs ++ numI v.length ++ (v.take m).flatMap fun n => numI (zzI n)) :: L) va v.length 1 (v.flatMap cI) := by rw [flat_I]; exact hv.sub
        obtain ⟨b2, o2, hia, hr2⟩ := RdS.elem (g := cI) (fun _ => rfl) hrs hz1 rfl
        clear hrs
        rw [hia]
        have := hll m hm
        refine Q.r ?_; (repeat (intro b1; refine Q.r ?_))
        refine S.y (Y.shlI (b := 1) rfl rfl (by decide)) ?_
        refine S.y (Y.cvi rfl) ?_
        refine Q.r ?_; (repeat (intro b1; refine Q.r ?_))
        refine S.y (Y.shrI (b := 31) rfl rfl (by decide)) ?_
        refine S.y (Y.cvi rfl) ?_
        refine S.y (Y.xor rfl rfl) ?_
        refine S.y (Y.cvi rfl) ?_
        refine S.cr (args := [.pointer (some ⟨w, 0, none⟩), .int .u64 (zzI z)]) rfl (wnum_spec w _ (zzI z) _ (by rw [List.length_append, List.length_append]; omega) (u64_le _)) ?_
        rintro _ _ ⟨rfl, rfl⟩
        refine Q.r ?_; (repeat (intro b1; refine Q.r ?_))
        refine ⟨m + 1, ⟨rfl, rfl, rfl, rfl, by first | rfl | (rw [← hia]; rfl), rfl, rfl, trivial⟩, ?_, by omega, by omega⟩
        rw [take_snoc hz1, List.flatMap_append, List.append_assoc (bs ++ numI v.length)]
        simp only [List.flatMap_cons, List.flatMap_nil, List.append_nil]
        exact Ent.refl _
      · have hme : m = v.length := by omega
        subst hme
        rw [List.take_length]
        refine Q.r ?_; (repeat (intro b1; refine Q.r ?_))
        refine ⟨1, ⟨rfl, rfl, rfl, rfl, trivial⟩, ?_, by omega, by omega⟩
        rw [if_neg (by decide)]
        unfold vecI
        rw [← List.append_assoc]
        exact Ent.refl _
    · have hk1 : k = 1 := by omega
      subst hk1
      rw [if_neg (by decide)]
      refine Q.r ?_; (repeat (intro b1; refine Q.r ?_))
      exact ⟨(), ⟨rfl, trivial⟩, Ent.refl _, trivial⟩
  · rintro _ _
    refine Q.r ?_; (repeat (intro b1; refine Q.r ?_))
    exact N.r1 (RV.tmp rfl RV.nil) (Ent.refl _) ⟨rfl, rfl⟩
theorem CloneB_spec (a : Option Addr) (c : Nat) (bs : List UInt8) (A : List HP) (h : RdS A a bs.length 1 (bs.map B)) (hn : bs.length ≤ 140737488355328) :
    CallsS Tryz.prog 125 [.slice a bs.length c] A (fun v L' => ∃ a' c', v = .slice a' bs.length c' ∧ L' = slO 5 1 a' bs.length c' (bs.map B) :: A) := by
  refine CallsS.of_body Tryz.func125 rfl rfl rfl ?_
  cases a with
  | none =>
    have hx : bs = [] := by
      rcases h.2 with h0 | ⟨_, _, h0, _⟩
      · exact List.eq_nil_of_length_eq_zero h0
      · cases h0
    subst hx
    refine Q.r ?_; (repeat (intro b1; refine Q.r ?_))
    exact N.r1 (RV.tmp rfl RV.nil) slO_nil ⟨none, 0, rfl, rfl⟩
  | some ad =>
    refine Q.r ?_; (repeat (intro b1; refine Q.r ?_))
    refine opsS_ent (slO_fold (sz := 1) (m := 0) rfl) ?_
    refine S.app0 rfl rfl rfl (SrcS.rd h.sub (B_one _)) (by rfl) (by omega) (by omega) (fun a5 c5 => ?_)
    refine Q.r ?_; (repeat (intro b1; refine Q.r ?_))
    exact N.r1 (RV.tmp rfl RV.nil) (Ent.refl _) ⟨a5, c5, rfl, rfl⟩
theorem wBytes_spec (w : Nat) (bs : List UInt8) (L : List HP) (hb : bs.length ≤ 140737488355328) :
    CallsS Tryz.prog 57 [.pointer (some ⟨w, 0, none⟩)] (wH w bs :: L) (fun r L' => ∃ a c, r = .slice a bs.length c ∧ L' = slO 5 1 a bs.length c (bs.map B) :: wH w bs :: L) := by
  refine calls_w fun a c => ?_
  refine CallsS.of_body Tryz.func57 rfl rfl rfl ?_
  refine Q.r ?_; (repeat (intro b1; refine Q.r ?_))
  refine opsS_addr a (fun ha => ?_)
  refine S.cr rfl (CloneB_spec a c bs _ (RdS.slO (t := 5) (c := c) (L1 := wP w a bs.length c :: L) (Ent.perm (.swap _ _ _)) (by simp) ha) hb) ?_
  rintro _ _ ⟨a', c', rfl, rfl⟩
  refine Q.r ?_; (repeat (intro b1; refine Q.r ?_))
  refine N.r1 (RV.tmp rfl RV.nil) (Ent.cons wH_shut) ⟨a', c', rfl, rfl⟩
end Go.Proofs.YtjidejcehmamkaaGreatDoor
namespace Go.Proofs.YtjidejcehmamkaaGreatDoor
open Go Go.SX
attribute [local irreducible] swp opsS thenS blockS retS CallsS St Ent YieldS anyS drawS
structure VS where
  dim : Int
  ch : List (Int × VL)
  its : List (Int × Int × VL)
  mark : Int
abbrev ptrV (p : Nat) : Value := .pointer (some ⟨p, 0, none⟩)
abbrev CR := Int × Nat × VL
def chsH (M : Nat → Option Obj) (cs : List CR) : HP := allH (cs.map fun c => chainH M c.2.1 c.2.2)
abbrev vP (v mc mi : Nat) (dim mark : Int) : HP := pt v (cl [.int .i64 dim, .map (some mc), .map (some mi), .int .u64 mark] 189)
abbrev vC (mc : Nat) (cs : List CR) : HP := mpO U64 ptrV mc (cs.map fun c => (c.1, c.2.1))
abbrev vI (mi : Nat) (is : List IV) : HP := mpO U64 IV.val mi (is.map fun i => (i.txn, i))
structure VOK (M : Nat → Option Obj) (st : VS) (cs : List CR) (is : List IV) : Prop where
  ch : cs.map (fun c => (c.1, c.2.2)) = st.ch
  its : is.map IV.abs = st.its
  ok : ∀ i ∈ is, okI M i
  k1 : keysOK st.ch
  k2 : keysOK st.its
def vaultH (v : Nat) (st : VS) : HP := exH fun x : (Nat × Nat × (Nat → Option Obj)) × List CR × List IV => allH [pureH (VOK x.1.2.2 st x.2.1 x.2.2), vP v x.1.1 x.1.2.1 st.dim st.mark, vC x.1.1 x.2.1, vI x.1.2.1 x.2.2, chsH x.1.2.2 x.2.1, roM x.1.2.2]
theorem vault_shut {v mc mi : Nat} {M : Nat → Option Obj} {st : VS} {cs : List CR} {is : List IV} {L : List HP} (h : VOK M st cs is) : Ent (vP v mc mi st.dim st.mark :: vC mc cs :: vI mi is :: chsH M cs :: roM M :: L) (vaultH v st :: L) :=
  Ent.trans (Ent.shut_pure h) (Ent.trans (Ent.shut_all (L := [_, _, _, _, _, _])) (Ent.shut_ex (P := fun x : (Nat × Nat × (Nat → Option Obj)) × List CR × List IV => allH [pureH (VOK x.1.2.2 st x.2.1 x.2.2), vP v x.1.1 x.1.2.1 st.dim st.mark, vC x.1.1 x.2.1, vI x.1.2.1 x.2.2, chsH x.1.2.2 x.2.1, roM x.1.2.2]) ((mc, mi, M), cs, is)))
theorem calls_vault {g : FuncId} {args : List Value} {R : Value → List HP → Prop} {v : Nat} {st : VS} {L : List HP}
    (h : ∀ mc mi M cs is, VOK M st cs is → CallsS Tryz.prog g args (vP v mc mi st.dim st.mark :: vC mc cs :: vI mi is :: chsH M cs :: roM M :: L) R) : CallsS Tryz.prog g args (vaultH v st :: L) R :=
  CallsS.ex fun x => CallsS.all (CallsS.pure fun hx => h x.1.1 x.1.2.1 x.1.2.2 x.2.1 x.2.2 hx)
class PickV (v : Nat) (L : List HP) (st : outParam VS) (L0 : outParam (List HP)) : Prop where
  ent : Ent L (vaultH v st :: L0)
instance PickV.here {v : Nat} {L : List HP} {st : VS} : PickV v (vaultH v st :: L) st L := ⟨Ent.refl _⟩
instance (priority := low) PickV.there {v : Nat} {A : HP} {L L0 : List HP} {st : VS} [h : PickV v L st L0] : PickV v (A :: L) st (A :: L0) := ⟨(h.ent.cons).trans (Ent.perm (.swap _ _ _))⟩
section
variable {n : Nat} {ops rest : List Oper} {cd : Code} {Q : Post} {f : Env} {L L0 : List HP} {st : VS}
theorem swp_vault (v : Nat) [hp : PickV v L st L0] (h : ∀ mc mi M cs is, VOK M st cs is → swp Tryz.prog n cd Q f (vP v mc mi st.dim st.mark :: vC mc cs :: vI mi is :: chsH M cs :: roM M :: L0)) : swp Tryz.prog n cd Q f L :=
  swp_ent hp.ent (swp_ex fun x => swp_all (swp_pure fun hx => h x.1.1 x.1.2.1 x.1.2.2 x.2.1 x.2.2 hx))
theorem S.cv {d : Tmp} {ty : TypeId} {pos : String} {af : Array Edge} {g : FuncId} {xs : Array Operand} {ats : Array TypeId} {args : List Value} {R : Value → List HP → Prop} (v : Nat) [hp : PickV v L st L0] [he : Enters Tryz.prog g] (hx : argsL f xs.toList = some args) (hc : CallsS Tryz.prog g args (vaultH v st :: L0) R) (hk : ∀ v L', R v L' → opsS Tryz.prog n ops rest Q (upd f d v) L') :
    opsS Tryz.prog n ops (⟨some d, .call ⟨.value (.func g), xs, ats⟩, ty, pos, af, none⟩ :: rest) Q f L := opsS_ent hp.ent (S.cr hx hc hk)
end
def opsLe (st : VS) : Prop := ∀ i ∈ st.its, i.2.2.length ≤ 1000000
theorem VOK.ops {M : Nat → Option Obj} {st : VS} {cs : List CR} {is : List IV} (h : VOK M st cs is) (hl : opsLe st) : ∀ i ∈ is, i.ops.length ≤ 1000000 := fun i hi => by
  have := hl i.abs (by rw [← h.its]; exact List.mem_map_of_mem hi)
  simpa using this
theorem its_at {is : List IV} {i : Nat} {p : Int × IV} (h : (is.map fun i => (i.txn, i))[i]? = some p) : ∃ x, is[i]? = some x ∧ x ∈ is ∧ p = (x.txn, x) := by
  rw [List.getElem?_map] at h
  cases hx : is[i]? with
  | none => rw [hx] at h; cases h
  | some x => rw [hx] at h; exact ⟨x, rfl, List.mem_of_getElem? hx, (Option.some.inj h).symm⟩
theorem any_none {α : Type} {l : List α} {p : α → Bool} {vis : List Nat} (h : ∀ i, i < l.length → i ∈ vis) (hv : ∀ i ∈ vis, ∀ x, l[i]? = some x → p x = false) : l.any p = false := by
  rw [List.any_eq_false]
  intro x hx
  obtain ⟨i, hi⟩ := List.mem_iff_getElem?.1 hx
  rw [hv i (h i (List.getElem?_eq_some_iff.1 hi).1) x hi]; exact Bool.false_ne_true
set_option maxHeartbeats 1000000 in
theorem holder_spec (v : Nat) (st : VS) (id : Int) (L : List HP) (hl : opsLe st) :
    CallsS Tryz.prog 113 [ptrV v, .int .u64 id] (vaultH v st :: L)
      (fun r L' => (∃ x y a m c, r = .tuple #[.agg #[.int .u64 x, .int .u64 y, .slice a m c], .bool (st.its.any fun i => holdsV i.2.2 id)]) ∧ L' = vaultH v st :: L) := by
  refine calls_vault fun mc mi M cs is hok => ?_
  have hops := hok.ops hl
  have hany : (st.its.any fun i => holdsV i.2.2 id) = is.any fun i => holdsV (i.ops.map OV.abs) id := by rw [← hok.its, List.any_map]; rfl
  rw [hany]
  refine CallsS.of_body Tryz.func113 rfl rfl rfl ?_
  refine Q.r ?_; (repeat (intro b1; refine Q.r ?_))
  refine S.rg rfl (fun r => ?_)
  refine Q.r ?_; (repeat (intro b1; refine Q.r ?_))
  refine swp_loop (σ := List Nat) (fun vis => [(1, .int .u64 id), (4, .pointer (some ⟨b1, 0, none⟩)), (12, .pointer (some ⟨r, 0, none⟩))])
    (fun vis => pt b1 (cl [.int .u64 0, .int .u64 0, .slice none 0 0] 44) :: vP v mc mi st.dim st.mark :: vC mc cs :: itO U64 IV.val mi r (is.map fun i => (i.txn, i)) vis :: chsH M cs :: roM M :: L)
    (fun vis => vis.Nodup ∧ (∀ i ∈ vis, i < is.length) ∧ ∀ i ∈ vis, ∀ x, is[i]? = some x → holdsV (x.ops.map OV.abs) id = false) (fun vis => is.length - vis.length) [] ⟨rfl, rfl, rfl, trivial⟩ (by exact Go.SX.Ent.go) ⟨by simp, by simp, by simp⟩ ?_
  rintro vis ⟨hv1, hv2, hv3⟩
  refine Q.r ?_; (repeat (intro b1; refine Q.r ?_))
  refine S.nx rfl (fun hend => ?_) (fun i p hp hi => ?_)
  · rw [List.length_map] at hend
    rw [any_none hend hv3]
    refine Q.r ?_; (repeat (intro b1; refine Q.r ?_))
    exact N.r2 (by apply RV.cellN; rfl; exact RdC.row; rfl; exact RV.tmp rfl RV.nil) (Ent.drop (Ent.trans (Ent.cons (Ent.cons itO_map)) (vault_shut hok))) ⟨⟨0, 0, none, 0, 0, rfl⟩, rfl⟩
  · obtain ⟨x, hx, hmx, rfl⟩ := its_at hp
    obtain ⟨m1, m2, m3⟩ := vis_more hv1 hv2 (List.getElem?_eq_some_iff.1 hx).1 hi
    refine Q.r ?_; (repeat (intro b1; refine Q.r ?_))
    refine S.y (Y.en rfl hp) ?_
    refine Q.r ?_; (repeat (intro b1; refine Q.r ?_))
    refine S.cr rfl (holds_spec x id _ ((hok.ok x hmx).rd) (hops x hmx)) ?_
    rintro _ _ ⟨rfl, rfl⟩
    cases hh : holdsV (x.ops.map OV.abs) id with
    | true =>
      rw [show (is.any fun i => holdsV (i.ops.map OV.abs) id) = true from List.any_eq_true.2 ⟨x, hmx, hh⟩]
      refine Q.r ?_; (repeat (intro b1; refine Q.r ?_))
      exact N.r2 (by apply RV.cellN; rfl; exact RdC.row; rfl; exact RV.tmp rfl RV.nil) (Ent.drop (Ent.drop (Ent.trans (Ent.cons (Ent.cons itO_map)) (vault_shut hok)))) ⟨⟨_, _, _, _, _, rfl⟩, rfl⟩
    | false =>
      refine Q.r ?_; (repeat (intro b1; refine Q.r ?_))
      refine ⟨vis ++ [i], ⟨rfl, rfl, rfl, trivial⟩, Ent.drop (Ent.refl _), ⟨m1, m2, fun j hj y hy => ?_⟩, by simp; omega⟩
      rcases List.mem_append.1 hj with hj | hj
      · exact hv3 j hj y hy
      · obtain rfl := List.mem_singleton.1 hj
        rw [hx] at hy
        obtain rfl := Option.some.inj hy
        exact hh
end Go.Proofs.YtjidejcehmamkaaGreatDoor
namespace Go.Proofs.YtjidejcehmamkaaGreatDoor
open Go Go.SX
attribute [local irreducible] swp opsS thenS blockS retS CallsS St Ent YieldS anyS drawS
def vecsH (us : List OV) : HP := bodV 21 (us.map fun o => (o.a, o.c, o.vec.map I32))
theorem vecs_snoc {us : List OV} {o : OV} {m : Nat} {L : List HP} (hm : m = o.vec.length) : Ent (slO 21 1 o.a m o.c (o.vec.map I32) :: vecsH us :: L) (vecsH (us ++ [o]) :: L) := by
  unfold vecsH
  rw [List.map_append, List.map_cons, List.map_nil]
  exact bodV_snoc (by simp [hm])
theorem vecs_abs {L L0 : List HP} {M : Nat → Option Obj} [hp : PickM L M L0] : ∀ us : List OV, Ent (vecsH us :: L) (exH (fun M' => allH [pureH (leM M M' ∧ okR M' us), roM M']) :: L0) := by
  intro us
  induction us generalizing M L with
  | nil =>
    refine Ent.drop (hp.ent.trans ?_)
    refine Ent.trans ?_ (Ent.shut_ex M)
    refine Ent.trans ?_ Ent.shut_all
    exact Ent.shut_pure ⟨leM.refl M, fun o ho => by cases ho⟩
  | cons o us ih =>
    have h1 : Ent (vecsH (o :: us) :: L) (slO 21 1 o.a o.vec.length o.c (o.vec.map I32) :: vecsH us :: L) := by
      unfold vecsH
      exact bodV_out' (p := []) (by simp)
    refine h1.trans ?_
    have hp2 : PickM (vecsH us :: L) M (vecsH us :: L0) := inferInstance
    refine (Ent.absorb (h := hp2)).trans ?_
    refine Ent.ex fun M1 => Ent.open_all.trans (Ent.pure fun hs => ?_)
    refine Ent.trans (Ent.perm (.swap _ _ _)) ?_
    refine (ih (M := M1) (L := roM M1 :: L0) (hp := inferInstance)).trans ?_
    refine Ent.ex fun M2 => Ent.open_all.trans (Ent.pure fun hs2 => ?_)
    refine Ent.trans ?_ (Ent.shut_ex M2)
    refine Ent.trans ?_ Ent.shut_all
    refine Ent.shut_pure ⟨hs.1.trans hs2.1, fun u hu => ?_⟩
    rcases List.mem_cons.1 hu with rfl | hu
    · exact hs.2.mono hs2.1
    · exact hs2.2 u hu
theorem swp_absV (us : List OV) {n : Nat} {cd : Code} {Q : Post} {f : Env} {L L0 L1 : List HP} {M : Nat → Option Obj} [h : Pick (vecsH us) L L0] [h1 : PickM L0 M L1] (hk : ∀ M', leM M M' → okR M' us → swp Tryz.prog n cd Q f (roM M' :: L1)) : swp Tryz.prog n cd Q f L :=
  swp_ent (h.ent.trans (vecs_abs us)) (swp_ex fun M' => swp_all (swp_pure fun hh => hk M' hh.1 hh.2))
theorem chain_mono {M M' : Nat → Option Obj} (h : leM M M') {p : Nat} {vs : VL} {L : List HP} : Ent (chainH M p vs :: L) (chainH M' p vs :: L) :=
  Ent.ex fun x => Ent.open_all.trans (Ent.pure fun hx => by
    obtain ⟨⟨a, c⟩, ovs⟩ := x
    obtain ⟨rfl, h2⟩ := hx
    exact chain_shut fun o ho => (h2 o ho).mono h)
theorem chs_out {M : Nat → Option Obj} {p q : List CR} {x : CR} {L : List HP} : Ent (chsH M (p ++ x :: q) :: L) (chainH M x.2.1 x.2.2 :: chsH M (p ++ q) :: L) := by
  refine Ent.open_all.trans ?_
  rw [List.map_append, List.map_cons]
  refine (Ent.app (Ent.perm List.perm_middle)).trans ?_
  rw [List.cons_append, ← List.map_append]
  exact Ent.shut_all.cons
theorem chs_in {M : Nat → Option Obj} {p q : List CR} {x : CR} {L : List HP} : Ent (chainH M x.2.1 x.2.2 :: chsH M (p ++ q) :: L) (chsH M (p ++ x :: q) :: L) := by
  refine (Ent.cons Ent.open_all).trans ?_
  refine Ent.trans ?_ Ent.shut_all
  rw [List.map_append, List.map_append, List.map_cons]
  exact Ent.app (Ent.perm List.perm_middle.symm) (L := _ :: (_ ++ _))
theorem chs_mono {M M' : Nat → Option Obj} (h : leM M M') : ∀ {cs : List CR} {L : List HP}, Ent (chsH M cs :: L) (chsH M' cs :: L)
  | [], L => Ent.refl _
  | x :: cs, L => (chs_out (p := [])).trans ((Ent.cons (chs_mono h (cs := cs))).trans ((chain_mono h).trans (chs_in (p := []))))
theorem lk_none' {κ α : Type} [DecidableEq κ] {m : List (κ × α)} {x : κ} (h : lkL m x = none) : ∀ u ∈ m, u.1 ≠ x := fun u hu e => by
  unfold lkL at h
  rw [Option.map_eq_none_iff, List.find?_eq_none] at h
  exact h u hu (by simpa using e)
theorem lkL_its_none {is : List IV} {st : VS} {M : Nat → Option Obj} {cs : List CR} (h : VOK M st cs is) {t : Int} (hx : lkL (is.map fun i => (i.txn, i)) t = none) : keysOK (st.its ++ [(t, (0 : Int), ([] : VL))]) := by
  have hn := lk_none' hx
  unfold keysOK
  rw [List.map_append, List.nodup_append]
  refine ⟨h.k2, by simp, fun y hy z hz => ?_⟩
  simp at hz
  subst hz
  obtain ⟨u, hu, rfl⟩ := List.mem_map.1 hy
  rw [← h.its] at hu
  obtain ⟨i, hi, rfl⟩ := List.mem_map.1 hu
  exact fun e => hn (i.txn, i) (List.mem_map_of_mem (f := fun i : IV => (i.txn, i)) hi) e
theorem lk_its (is : List IV) (t : Int) : lkL (is.map IV.abs) t = (lkL (is.map fun i => (i.txn, i)) t).map (fun x => (x.after, x.ops.map OV.abs)) := by
  induction is with
  | nil => rfl
  | cons x is ih =>
    unfold lkL at ih ⊢
    simp only [List.map_cons, List.find?_cons]
    by_cases h : x.txn = t
    · simp [h]
    · simp only [h, decide_false]; exact ih
theorem lk_mem {is : List IV} {t : Int} {x : IV} (h : lkL (is.map fun i => (i.txn, i)) t = some x) : x ∈ is ∧ x.txn = t := by
  unfold lkL at h
  obtain ⟨p, hp, hx⟩ := Option.map_eq_some_iff.1 h
  have h1 := List.mem_of_find?_eq_some hp
  have h2 := List.find?_some hp
  obtain ⟨y, hy, rfl⟩ := List.mem_map.1 h1
  dsimp only at hx h2
  subst hx
  exact ⟨hy, by simpa using h2⟩
set_option maxHeartbeats 1000000 in
theorem copyOf_spec (i : IV) (A : List HP) (h : RdO A i.a i.ops) (hn : i.ops.length ≤ 1000000) (hv : ∀ o ∈ i.ops, o.vec.length ≤ 1000000) :
    CallsS Tryz.prog 92 [i.val] A (fun v L' => ∃ (a : Option Addr) (c : Nat) (us : List OV), us.map OV.abs = i.ops.map OV.abs ∧ v = IV.val ⟨i.txn, i.after, a, c, us⟩ ∧ L' = slO 46 2 a us.length c (us.flatMap OV.cells) :: vecsH us :: A) := by
  refine CallsS.of_body Tryz.func92 rfl rfl rfl ?_
  refine Q.r ?_; (repeat (intro b1; refine Q.r ?_))
  rename_i b2
  refine swp_loop (σ := Nat × Option Addr × Nat × List OV) (fun s => [(1, .pointer (some ⟨b2, 0, none⟩)), (2, .pointer (some ⟨b1, 0, none⟩)), (7, .slice i.a i.ops.length i.c), (8, .int .i64 i.ops.length), (3, .slice s.2.1 s.2.2.2.length s.2.2.1), (9, .int .i64 s.1)])
    (fun s => slO 46 2 s.2.1 s.2.2.2.length s.2.2.1 (s.2.2.2.flatMap OV.cells) :: vecsH s.2.2.2 :: pt b1 (cl [.int .u64 0, .int .u64 0, .slice none 0 0] 44) :: pt b2 (cl i.cells 44) :: A)
    (fun s => s.1 ≤ i.ops.length ∧ s.2.2.2.map OV.abs = (i.ops.take s.1).map OV.abs) (fun s => i.ops.length - s.1) (0, none, 0, []) ⟨rfl, rfl, rfl, rfl, rfl, rfl, trivial⟩ ?_ ⟨by omega, by simp⟩ ?_
  · exact Ent.trans (Ent.trans bodV_nil slO_nil) (Ent.refl _)
  rintro ⟨k, a3, c3, us⟩ ⟨hk, hus⟩
  dsimp only at hk hus ⊢
  have hul : us.length = k := by
    have := congrArg List.length hus
    simp at this; omega
  by_cases hlt : k < i.ops.length
  · obtain ⟨o, ho⟩ := mem_get hlt
    have hmo : o ∈ i.ops := List.mem_of_getElem? ho
    obtain ⟨b, oo, hia, hr⟩ := RdS.elem (g := OV.cells) (fun _ => rfl) h.1 ho rfl
    rw [hia]
    refine Q.r ?_; (repeat (intro b1; refine Q.r ?_))
    refine Q.dgo [true, false, false, false, false] [5, 7, 8] [] [0, 1, 2, 3, 4, 5, 6, 7, 8, 9] ?_
    refine Q.rd ?_; (repeat (intro b1; refine Q.rd ?_))
    refine D.e rfl rfl rfl ?_
    refine S.cr rfl (CloneI_spec o.a o.c o.vec _ ((h.2 o hmo).sub) (hv o hmo)) ?_
    rintro _ _ ⟨a', c', rfl, rfl⟩
    refine Q.r ?_; (repeat (intro b1; refine Q.r ?_))
    refine Q.rd ?_; (repeat (intro b1; refine Q.rd ?_))
    refine D.e rfl rfl rfl ?_
    refine S.app rfl rfl (SrcS.sl RdC.row (by rfl) (by rfl)) (by rfl) (by omega) (by omega) (fun a4 c4 => ?_)
    refine Q.r ?_; (repeat (intro b1; refine Q.r ?_))
    refine Q.rd ?_; (repeat (intro b1; refine Q.rd ?_))
    refine Q.r ?_; (repeat (intro b1; refine Q.r ?_))
    refine ⟨(k + 1, a4, c4, us ++ [⟨o.id, a', c', o.vec⟩]), ⟨rfl, rfl, rfl, rfl, congrArg some (by simp), rfl, trivial⟩, ?_, ⟨by dsimp only; omega, by dsimp only; rw [List.map_append, hus, take_snoc ho, List.map_append]; rfl⟩, by dsimp only; omega⟩
    dsimp only
    rw [len_snoc, flat_snoc]
    refine Ent.pick (Ent.trans ?_ (vecs_snoc (o := ⟨o.id, a', c', o.vec⟩) rfl))
    exact Go.SX.Ent.go
  · have hke : k = i.ops.length := by omega
    subst hke
    rw [List.take_length] at hus
    refine Q.r ?_; (repeat (intro b1; refine Q.r ?_))
    refine N.r1 (by apply RV.cellN; rfl; exact RdC.row; rfl; exact RV.nil) ?_ ⟨a3, c3, us, hus, rfl, rfl⟩
    exact Go.SX.Ent.go
theorem New_spec (dim : Int) (L : List HP) (h1 : 1 ≤ dim) (h2 : dim ≤ 8) : CallsS Tryz.prog 29 [.int .i64 dim] L (fun r L' => ∃ v, r = .tuple #[ptrV v, .int .i64 0] ∧ L' = vaultH v ⟨dim, [], [], 0⟩ :: L) := by
  refine CallsS.of_body Tryz.func29 rfl rfl rfl ?_
  refine Q.r ?_; (repeat (intro b1; refine Q.r ?_))
  refine S.mkm U64 ptrV (fun mc => ?_)
  refine S.mkm U64 IV.val (fun mi => ?_)
  refine Q.r ?_; (repeat (intro b1; refine Q.r ?_))
  refine N.r2 (RV.tmp rfl (RV.tmp rfl RV.nil)) (Ent.trans ?_ (vault_shut (v := b1) (mc := mc) (mi := mi) (M := fun _ => none) (st := ⟨dim, [], [], 0⟩) (cs := []) (is := []) ⟨rfl, rfl, by simp, by simp [keysOK], by simp [keysOK]⟩)) ⟨b1, rfl, rfl⟩
  show Ent (pt b1 _ :: mpO U64 IV.val mi [] :: mpO U64 ptrV mc [] :: L) (pt b1 _ :: mpO U64 ptrV mc [] :: mpO U64 IV.val mi [] :: _)
  refine Ent.cons (Ent.trans (Ent.perm (.swap _ _ _)) (Ent.cons (Ent.cons ?_)))
  exact Ent.trans (Ent.shut_all (L := [])) (Ent.cons (Ent.nilM (Ent.refl _)))
def lockE (st : VS) (txn after : Int) (ops : VL) : Int :=
  if 1099511627776 < after then 1 else if checkV st.dim ops ≠ 0 then checkV st.dim ops else if (lkL st.its txn).isSome then 7 else if ops.any fun o => st.its.any fun i => holdsV i.2.2 o.1 then 11 else 0
def lockS (st : VS) (txn after : Int) (ops : VL) : VS := if lockE st txn after ops = 0 then { st with its := st.its ++ [(txn, after, ops)] } else st
set_option maxHeartbeats 2000000 in
theorem Lock_spec (v : Nat) (st : VS) (i : IV) (L : List HP) (hl : opsLe st) (h : RdO L i.a i.ops) (hn : i.ops.length ≤ 1000000) (hv : ∀ o ∈ i.ops, o.vec.length ≤ 1000000) (hd : -9223372036854775808 ≤ st.dim ∧ st.dim ≤ 9223372036854775807) :
    CallsS Tryz.prog 43 [ptrV v, i.val] (vaultH v st :: L) (fun r L' => r = .int .i64 (lockE st i.txn i.after (i.ops.map OV.abs)) ∧ L' = vaultH v (lockS st i.txn i.after (i.ops.map OV.abs)) :: L) := by
  unfold lockS lockE
  refine calls_vault fun mc mi M cs is hok => ?_
  refine CallsS.of_body Tryz.func43 rfl rfl rfl ?_
  refine Q.r ?_; (repeat (intro b1; refine Q.r ?_))
  refine Q.dgo [true, true, false, false, false, false] [6] [] [0, 1, 2, 3, 4, 5, 6, 7] ?_
  refine Q.rd ?_; (repeat (intro b1; refine Q.rd ?_))
  refine D.e rfl rfl rfl ?_
  refine S.cr rfl (Check_spec st.dim i.a i.c i.ops _ h.sub hn hv hd) ?_
  rintro _ _ ⟨rfl, rfl⟩
  by_cases h1 : 1099511627776 < i.after
  · rw [if_pos h1]
    refine Q.r ?_; (repeat (intro b1; refine Q.r ?_))
    refine Q.rd ?_; (repeat (intro b1; refine Q.rd ?_))
    refine Q.r ?_; (repeat (intro b1; refine Q.r ?_))
    refine N.r1 (RV.tmp rfl RV.nil) ?_ ⟨rfl, rfl⟩
    rw [if_neg (by decide)]
    refine Ent.trans ?_ (vault_shut (mc := mc) (mi := mi) hok)
    exact Go.SX.Ent.go
  rw [if_neg h1]
  generalize checkV st.dim (i.ops.map OV.abs) = ce
  by_cases h2 : ce ≠ 0
  · rw [if_pos h2]
    refine Q.r ?_; (repeat (intro b1; refine Q.r ?_))
    refine Q.rd ?_; (repeat (intro b1; refine Q.rd ?_))
    refine Q.r ?_; (repeat (intro b1; refine Q.r ?_))
    refine N.r1 (RV.tmp rfl RV.nil) ?_ ⟨rfl, rfl⟩
    rw [if_neg h2]
    refine Ent.trans ?_ (vault_shut (mc := mc) (mi := mi) hok)
    exact Go.SX.Ent.go
  rw [if_neg h2]
  have h2' : ce = 0 := by omega
  subst h2'
  refine Q.r ?_; (repeat (intro b1; refine Q.r ?_))
  refine Q.rd ?_; (repeat (intro b1; refine Q.rd ?_))
  refine Q.r ?_; (repeat (intro b1; refine Q.r ?_))
  refine Q.dgo [true, true, false, true, false, false] [10, 11] [] [0, 1, 2, 3, 4, 5, 6, 7, 8, 9, 10, 11, 12] ?_
  refine Q.rd ?_; (repeat (intro b1; refine Q.rd ?_))
  refine D.y rfl rfl rfl (by kernel_rfl) (Y.lk true rfl rfl (fun w => Tryz.zeroValue44 w)) ?_
  have hlk := lk_its is i.txn
  rw [hok.its] at hlk
  cases hx : lkL (is.map fun i => (i.txn, i)) i.txn with
  | some x =>
    rw [hx] at hlk
    rw [hlk]
    dsimp only
    refine Q.rd ?_; (repeat (intro b1; refine Q.rd ?_))
    refine Q.r ?_; (repeat (intro b1; refine Q.r ?_))
    refine N.r1 (RV.tmp rfl RV.nil) ?_ ⟨rfl, rfl⟩
    simp only [Option.map_some, Option.isSome_some, if_true]
    rw [if_neg (by decide)]
    refine Ent.trans ?_ (vault_shut (mc := mc) (mi := mi) hok)
    exact Go.SX.Ent.go
  | none =>
    rw [hx] at hlk
    rw [hlk]
    dsimp only
    refine Q.rd ?_; (repeat (intro b1; refine Q.rd ?_))
    refine Q.r ?_; (repeat (intro b1; refine Q.r ?_))
    simp only [Option.map_none, Option.isSome_none, Bool.false_eq_true, if_false] at hlk ⊢
    rename_i bx
    have hev : ((i.ops.map OV.abs).any fun o => st.its.any fun i => holdsV i.2.2 o.1) = i.ops.any fun o => st.its.any fun i => holdsV i.2.2 o.id := by rw [List.any_map]; rfl
    rw [hev]
    refine swp_cutB (σ := Unit) (fun _ => [(0, ptrV v), (3, .pointer (some ⟨bx, 0, none⟩))]) (fun _ => vaultH v st :: pt bx (cl i.cells 44) :: L) (fun _ => (i.ops.any fun o => st.its.any fun i => holdsV i.2.2 o.id) = false) ?_ ?_
    · refine swp_loop (σ := Nat) (fun k => [(0, ptrV v), (3, .pointer (some ⟨bx, 0, none⟩)), (39, .slice i.a i.ops.length i.c), (40, .int .i64 i.ops.length), (41, .int .i64 k)]) (fun _ => vaultH v st :: pt bx (cl i.cells 44) :: L)
        (fun k => k ≤ i.ops.length ∧ (i.ops.take k).any (fun o => st.its.any fun i => holdsV i.2.2 o.id) = false) (fun k => i.ops.length - k) 0 ⟨rfl, rfl, rfl, rfl, rfl, trivial⟩ ?_ ⟨by omega, by simp⟩ ?_
      · refine Ent.trans ?_ (Ent.trans (vault_shut (mc := mc) (mi := mi) (L := pt bx (cl i.cells 44) :: L) hok) (Ent.refl _))
        exact Go.SX.Ent.go
      rintro k ⟨hk, hany⟩
      by_cases hlt : k < i.ops.length
      · obtain ⟨o, ho⟩ := mem_get hlt
        have hmo : o ∈ i.ops := List.mem_of_getElem? ho
        obtain ⟨b, oo, hia, hr⟩ := RdS.elem (g := OV.cells) (fun _ => rfl) h.1 ho rfl
        rw [hia]
        refine Q.r ?_; (repeat (intro b1; refine Q.r ?_))
        refine S.cv v rfl (holder_spec v st o.id _ hl) ?_
        rintro _ _ ⟨⟨x, y, a, m, c, rfl⟩, rfl⟩
        cases hh : st.its.any fun i => holdsV i.2.2 o.id with
        | true =>
          rw [show (i.ops.any fun o => st.its.any fun i => holdsV i.2.2 o.id) = true from List.any_eq_true.2 ⟨o, hmo, hh⟩]
          simp only [if_true]
          rw [if_neg (show ¬ ((11 : Int) = 0) by decide)]
          refine Q.r ?_; (repeat (intro b1; refine Q.r ?_))
          exact N.r1 (RV.tmp rfl RV.nil) (by exact Go.SX.Ent.go) ⟨rfl, rfl⟩
        | false =>
          refine Q.r ?_; (repeat (intro b1; refine Q.r ?_))
          exact ⟨k + 1, ⟨rfl, rfl, rfl, rfl, rfl, trivial⟩, by exact Go.SX.Ent.go, ⟨by omega, by rw [take_snoc ho, List.any_append, hany, List.any_cons, hh]; rfl⟩, by omega⟩
      · have hke : k = i.ops.length := by omega
        subst hke
        rw [List.take_length] at hany
        refine Q.r ?_; (repeat (intro b1; refine Q.r ?_))
        exact ⟨(), ⟨rfl, rfl, trivial⟩, Ent.refl _, hany⟩
    intro _ hany
    rw [hany]
    simp only [Bool.false_eq_true, if_false, if_true]
    clear hx hok mc mi M cs is
    refine swp_vault v (fun mc mi M cs is hok => ?_)
    have hlk2 := lk_its is i.txn
    rw [hok.its, hlk] at hlk2
    have hx : lkL (is.map fun i => (i.txn, i)) i.txn = none := by
      cases hx : lkL (is.map fun i => (i.txn, i)) i.txn with
      | none => rfl
      | some x => rw [hx] at hlk2; cases hlk2
    refine Q.r ?_; (repeat (intro b1; refine Q.r ?_))
    refine Q.dgo [true, false, false, false, false, true] [7, 8] [] [0, 1, 2, 3, 4, 5, 6, 7, 8] ?_
    refine Q.rd ?_; (repeat (intro b1; refine Q.rd ?_))
    refine D.e rfl rfl rfl ?_
    refine S.cr rfl (copyOf_spec i _ h.sub hn hv) ?_
    rintro _ _ ⟨a', c', us, hus, rfl, rfl⟩
    refine Q.r ?_; (repeat (intro b1; refine Q.r ?_))
    refine D.e rfl rfl rfl ?_
    refine S.mu rfl rfl rfl ?_
    refine Q.r ?_; (repeat (intro b1; refine Q.r ?_))
    refine Q.rd ?_; (repeat (intro b1; refine Q.rd ?_))
    refine N.tn ?_
    rw [putL_none (lk_none' hx)]
    refine swp_abs a' (fun M1 hl1 hs1 => ?_)
    refine swp_absV us (fun M2 hl2 hs2 => ?_)
    refine Q.r ?_; (repeat (intro b1; refine Q.r ?_))
    obtain ⟨nw, hnw⟩ : ∃ nw : IV, nw = ⟨i.txn, i.after, a', c', us⟩ := ⟨_, rfl⟩
    have hok2 : VOK M2 { st with its := st.its ++ [(i.txn, i.after, i.ops.map OV.abs)] } cs (is ++ [nw]) := by
      refine ⟨hok.ch, by rw [List.map_append, hok.its, hnw, ← hus]; rfl, fun u hu => ?_, hok.k1, by have := lkL_its_none hok hx; unfold keysOK at *; simpa using this⟩
      rcases List.mem_append.1 hu with hu | hu
      · exact (hok.ok u hu).mono (hl1.trans hl2)
      · obtain rfl := List.mem_singleton.1 hu
        rw [hnw]; exact ⟨hs1.mono hl2, hs2⟩
    refine N.r1 (RV.tmp rfl RV.nil) (Ent.trans ?_ (vault_shut (mc := mc) (mi := mi) hok2)) ⟨rfl, rfl⟩
    have e : vI mi (is ++ [nw]) = mpO U64 IV.val mi (is.map (fun i => (i.txn, i)) ++ [(i.txn, nw)]) := by unfold vI; rw [List.map_append, hnw]; rfl
    rw [e, ← hnw]
    refine Ent.pick (Ent.pick (Ent.pick ?_))
    refine Ent.trans ?_ (chs_mono (hl1.trans hl2))
    exact Go.SX.Ent.go
end Go.Proofs.YtjidejcehmamkaaGreatDoor
