/- slices.AppendSeq, slices.Collect, maps.Keys at keys of type uint64, walked. No condition. -/
import Derived.Test.YtjidejcehmamkaaDoorSxL
import Derived.Test.YtjidejcehmamkaaDoorTy
set_option linter.unusedVariables false
set_option linter.unusedSimpArgs false
namespace Go.Proofs.YtjidejcehmamkaaDoor
open Go Go.SX
attribute [local irreducible] swp opsS thenS blockS retS CallsS St Ent YieldS anyS drawS
attribute [local irreducible] opsI
abbrev U64 : Int → Value := Value.int .u64
def apRec (fn : FuncId) (tmps : Array Value) (ps : Array Tmp) (assign body : Code) (D : Nat) (st : LoopState) (pe : Option Code) : Loop := { state := st, pending := pe, fn, tmps, params := ps, assign, body, defers := D }
def apJ (rec : Loop) (l D bs : Nat) (pre : List Int) : HP := exH fun x : Option Addr × Nat => allH [pt l (.loop rec), pt D (.deferred (some [])), pt bs (cl [.slice x.1 pre.length x.2] 98), slO 30 1 x.1 pre.length x.2 (pre.map U64)]
theorem apJ_shut {rec : Loop} {l D bs : Nat} {pre : List Int} {a : Option Addr} {c : Nat} {L : List HP} : Ent (pt l (.loop rec) :: pt D (.deferred (some [])) :: pt bs (cl [.slice a pre.length c] 98) :: slO 30 1 a pre.length c (pre.map U64) :: L) (apJ rec l D bs pre :: L) :=
  Ent.trans (Ent.shut_all (L := [_, _, _, _])) (Ent.shut_ex (P := fun x : Option Addr × Nat => allH [pt l (.loop rec), pt D (.deferred (some [])), pt bs (cl [.slice x.1 pre.length x.2] 98), slO 30 1 x.1 pre.length x.2 (pre.map U64)]) (a, c))
theorem apJ_open {rec : Loop} {l D bs : Nat} {pre : List Int} {w : World} {L : List HP} (H : St w (apJ rec l D bs pre :: L)) : ∃ a c, St w (pt l (.loop rec) :: pt D (.deferred (some [])) :: pt bs (cl [.slice a pre.length c] 98) :: slO 30 1 a pre.length c (pre.map U64) :: L) := by
  obtain ⟨x, H⟩ := St.open_ex H
  exact ⟨x.1, x.2, St.ent (Ent.open_all (L := [_, _, _, _])) H⟩
theorem St.obj {w : World} {l : Nat} {o o' : Obj} {L : List HP} (H : St w (pt l o :: L)) : St (w.putObj l o') (pt l o' :: L) := by
  have hl := St.pt_read H
  have hlt : l < w.heap.size := (Array.getElem?_eq_some_iff.1 hl).1
  exact St.pt_write H (World.putObj_heap_same hlt) (fun k hk => World.putObj_heap_other hk) rfl
set_option maxHeartbeats 2000000 in
theorem apRound {fn : FuncId} {tm : Array Value} {l D bs : Nat} {pre : List Int} {x : Int} {assign body : Code} (htm : tm.size = 13) (hbs : tm[2]? = some (.pointer (some ⟨bs, 0, none⟩))) (hN : pre.length < 17592186044416)
    (ha : assign = .region 2 ([⟨some 5, .assign (.tmp 7), 30, "iter.go:51", #[], none⟩] : List Oper).toArray false)
    (hb : ∃ l1 id, body = .block 1 (.region id (l1 : List Oper).toArray false) ∧ okOps 13 l1 = true ∧
      ∀ (v : Int) (a : Option Addr) (c k : Nat) (cs : List Value), k < 17592186044416 → opsI Tryd.prog 13 (some l) l1 l1 (thenS (fun f L => ∃ a' c', L = [pt bs (cl [.slice a' (k + 1) c'] 98), slO 30 1 a' (k + 1) c' (cs ++ [U64 v])]) (fun _ _ _ => False)) (updAll [(2, .pointer (some ⟨bs, 0, none⟩)), (5, U64 v)]) [pt bs (cl [.slice a k c] 98), slO 30 1 a k c cs]) :
    RoundS Tryd.prog l (U64 x) [apJ (apRec fn tm #[7] assign body D .ready none) l D bs pre] [apJ (apRec fn tm #[7] assign body D .ready none) l D bs (pre ++ [x])] := by
  intro F w t
  obtain ⟨a, c, t⟩ := apJ_open (L := F) (by simpa using t)
  have hl := St.pt_read t
  obtain ⟨l1, id, hbd, hok1, hb⟩ := hb
  refine ⟨fn, tm.setIfInBounds 7 (U64 x), _, _, by simpa [apRec] using run_yield (P := Tryd.prog) (args := #[U64 x]) hl rfl, roundIn_of_wpIn trivial ?_⟩
  have s0 : Sim 13 { tmps := tm.setIfInBounds 7 (U64 x), defers := [] } (updAll [(2, .pointer (some ⟨bs, 0, none⟩)), (7, U64 x)]) := by
    refine ⟨rfl, by simp [htm], fun i v e => ?_⟩
    simp only [updAll, upd, e0] at e
    by_cases h2 : i = 2
    · subst h2
      cases e
      rw [Array.getD_eq_getD_getElem?, Array.getElem?_setIfInBounds_ne (by omega), hbs]; rfl
    · by_cases h7 : i = 7
      · subst h7
        cases e
        simp [htm]
      · rw [beq_ne h2, beq_ne h7] at e; cases e
  have hwa : ∀ Q a w, (Code.region 2 ([⟨some 5, .assign (.tmp 7), 30, "iter.go:51", #[], none⟩] : List Oper).toArray false).wpIn (WF (some l)) 0 Tryd.prog Q a w → assign.wpIn (WF (some l)) 0 Tryd.prog Q a w := fun Q a w h => by rw [ha]; exact h
  refine hwa _ _ _ (wpIn_round (r := some l) (n := 13) (L := [pt l (.loop (apRec fn tm #[7] assign body D .ready none)), pt D (.deferred (some [])), pt bs (cl [.slice a pre.length c] 98), slO 30 1 a pre.length c (pre.map U64)]) (F := F) (K := fun f L => f 2 = some (.pointer (some ⟨bs, 0, none⟩)) ∧ f 5 = some (U64 x) ∧ L = [pt l (.loop (apRec fn tm #[7] assign body D .ready none)), pt D (.deferred (some [])), pt bs (cl [.slice a pre.length c] 98), slO 30 1 a pre.length c (pre.map U64)]) ?_ rfl s0 t ?_)
  · refine opsI_one (fun _ h => by cases h) rfl ?_
    repeat (first | (refine GQ.y ?_; refine Q.y ?_) | refine Q.go ?_ | (refine GQ.g ?_; refine Q.gq ?_) | (refine GQ.s ?_; refine Q.st ?_))
    exact opsI_nil (N.tn ⟨rfl, rfl, rfl⟩)
  rintro f L a1 w1 ⟨h2, h5, rfl⟩ s1 t1
  refine ⟨_, run_beginRound (St.pt_read t1) rfl, ?_⟩
  have t2 := St.obj (o' := .loop { (apRec fn tm #[7] assign body D .ready none) with state := .busy }) (L := [pt D (.deferred (some [])), pt bs (cl [.slice a pre.length c] 98), slO 30 1 a pre.length c (pre.map U64)] ++ F) t1
  have t3 : St _ ([pt bs (cl [.slice a pre.length c] 98), slO 30 1 a pre.length c (pre.map U64)] ++ (pt l (.loop { (apRec fn tm #[7] assign body D .ready none) with state := .busy }) :: pt D (.deferred (some [])) :: F)) :=
    St.rot2 t2
  have hwp : ∀ Q a w, (Code.block 1 (.region id l1.toArray false)).wpIn (WF (some l)) 0 Tryd.prog Q a w → body.wpIn (WF (some l)) 0 Tryd.prog Q a w := fun Q a w h => by rw [hbd]; exact h
  refine hwp _ _ _ (wpIn_block (wpIn_round (r := some l) (n := 13) (F := _) (hb x a c pre.length (pre.map U64) hN) hok1 (s1.weaken (updAll_le ⟨h2, h5, trivial⟩)) t3 ?_))
  rintro f L a2 w2 ⟨a', c', rfl⟩ s2 t4
  have t5 : St w2 (pt l (.loop { (apRec fn tm #[7] assign body D .ready none) with state := .busy }) :: pt D (.deferred (some [])) :: ([pt bs (cl [.slice a' (pre.length + 1) c'] 98), slO 30 1 a' (pre.length + 1) c' (pre.map U64 ++ [U64 x])] ++ F)) :=
    St.rot2 t4
  refine ⟨_, _, run_endRound none (St.pt_read t5), rfl, ?_⟩
  have t6 := St.obj (o' := .loop (apRec fn tm #[7] assign body D .ready none)) t5
  have e1 : pre.length + 1 = (pre ++ [x]).length := by simp
  have e2 : pre.map U64 ++ [U64 x] = (pre ++ [x]).map U64 := by simp
  rw [e1, e2] at t6
  have t7 := St.ent (apJ_shut (L := F)) t6
  simpa [apRec] using t7
set_option maxHeartbeats 2000000 in
theorem AppendSeq_spec (gf : FuncId) (lb : List Value) [he : Enters Tryd.prog gf] (Sp : List Int → Prop) (A A' : List HP) (hseq : SeqS Tryd.prog gf lb U64 17592186044416 Sp A A') :
    CallsS Tryd.prog 74 [.slice none 0 0, .func (.func gf) #[] lb.toArray] A (fun v L' => ∃ ks a c, Sp ks ∧ v = .slice a ks.length c ∧ L' = slO 30 1 a ks.length c (ks.map U64) :: A') := by
  refine CallsS.mk' fun F w t => ?_
  refine (callsIn_wide (n := 1)).1 (callsIn_of_wp_marks Tryd.func74 rfl trivial ?_)
  have s0 : Sim 13 { tmps := #[.slice none 0 0, .func (.func gf) #[] lb.toArray] ++ Array.replicate 11 undef, defers := [] } (argEnv [.slice none 0 0, .func (.func gf) #[] lb.toArray] 0) := by
    refine ⟨rfl, by simp, fun i v e => ?_⟩
    obtain ⟨_, h2⟩ := argEnv_at _ 0 i v e
    simp only [Nat.sub_zero] at h2
    have hi : i < 2 := (List.getElem?_eq_some_iff.1 h2).1
    match i, hi, h2 with
    | 0, _, h2 => simpa using h2
    | 1, _, h2 => simpa using h2
  refine wpIn_of_swp (n := 13) (F := F) (K := fun f L => ∃ bs, f 1 = some (.func (.func gf) #[] lb.toArray) ∧ f 2 = some (.pointer (some ⟨bs, 0, none⟩)) ∧ L = pt bs (cl [.slice none 0 0] 98) :: A) ?_ rfl s0 t ?_
  · refine Q.r ?_; (repeat (intro b1; refine Q.r ?_))
    exact ⟨_, rfl, rfl, rfl⟩
  rintro f L a1 w1 ⟨bs, h1, h2, rfl⟩ s1 t1
  refine wpIn_seq ?_
  refine wpIn_of_swp (n := 13) (F := F) (K := fun f L => f 6 = some (.func (.func gf) #[] lb.toArray) ∧ f 2 = some (.pointer (some ⟨bs, 0, none⟩)) ∧ L = pt bs (cl [.slice none 0 0] 98) :: A) (f := updAll [(1, .func (.func gf) #[] lb.toArray), (2, .pointer (some ⟨bs, 0, none⟩))]) ?_ rfl (s1.weaken (updAll_le ⟨h1, h2, trivial⟩)) t1 ?_
  · refine Q.r ?_; (repeat (intro b1; refine Q.r ?_))
    exact ⟨rfl, rfl, rfl⟩
  rintro f L a2 w2 ⟨h6, h2, rfl⟩ s2 t2
  obtain ⟨tm, htm⟩ : ∃ tm, tm = a2.tmps := ⟨_, rfl⟩
  have hsz : tm.size = 13 := by rw [htm]; exact s2.size
  have h2' : tm[2]? = some (.pointer (some ⟨bs, 0, none⟩)) := by
    have := s2.at_ 2 _ h2
    rw [← htm, Array.getD_eq_getD_getElem?] at this
    have hlt : 2 < tm.size := by omega
    rw [Array.getElem?_eq_getElem hlt] at this ⊢
    simpa using this
  have hev : a2.eval (.tmp 6) = .func (.func gf) #[] lb.toArray := s2.eval (x := .tmp 6) h6
  refine wpIn_block (wpIn_rangeF hev fun fn => ?_)
  have t3 := St.pt_new (w' := w2.alloc (.deferred (some []))) t2 rfl rfl
  generalize hr0 : ({ state := .ready, pending := none, fn, tmps := a2.tmps, params := #[7], assign := _, body := _, defers := w2.heap.size } : Loop) = rec
  have t4 := St.pt_new (w' := (w2.alloc (.deferred (some []))).alloc (.loop rec)) t3 rfl rfl
  obtain ⟨As, hA⟩ : ∃ A, A = rec.assign := ⟨_, rfl⟩
  obtain ⟨Bs, hB⟩ : ∃ B, B = rec.body := ⟨_, rfl⟩
  have hrec : rec = apRec fn tm #[7] As Bs w2.heap.size .ready none := by rw [hA, hB, htm, ← hr0]; rfl
  have hA' : As = .region 2 ([⟨some 5, .assign (.tmp 7), 30, "iter.go:51", #[], none⟩] : List Oper).toArray false := by rw [hA, ← hr0]
  have hB' : ∃ l1 id, Bs = .block 1 (.region id (l1 : List Oper).toArray false) ∧ okOps 13 l1 = true ∧
      ∀ (v : Int) (a : Option Addr) (c k : Nat) (cs : List Value), k < 17592186044416 → opsI Tryd.prog 13 (some (w2.heap.size + 1)) l1 l1 (thenS (fun f L => ∃ a' c', L = [pt bs (cl [.slice a' (k + 1) c'] 98), slO 30 1 a' (k + 1) c' (cs ++ [U64 v])]) (fun _ _ _ => False)) (updAll [(2, .pointer (some ⟨bs, 0, none⟩)), (5, U64 v)]) [pt bs (cl [.slice a k c] 98), slO 30 1 a k c cs] := by
    refine ⟨_, 3, by rw [hB, ← hr0], rfl, fun v a c k cs hk => ?_⟩
    refine opsI_one (fun _ h => by cases h) rfl ?_
    refine Q.r ?_; (repeat (intro b1; refine Q.r ?_))
    refine opsI_one (fun _ h => by cases h) rfl ?_
    refine Q.r ?_; (repeat (intro b1; refine Q.r ?_))
    refine opsI_one (fun _ h => by cases h) rfl ?_
    refine Q.r ?_; (repeat (intro b1; refine Q.r ?_))
    refine opsI_one (fun _ h => by cases h) rfl ?_
    refine S.app rfl rfl (SrcS.sl RdC.row (by rfl) (by rfl)) (by rfl) (by omega) (by omega) (fun a' c' => ?_)
    refine Q.r ?_; (repeat (intro b1; refine Q.r ?_))
    refine opsI_one (fun _ h => by cases h) rfl ?_
    refine Q.r ?_; (repeat (intro b1; refine Q.r ?_))
    exact opsI_ent (Ent.drop (Ent.refl _)) (opsI_nil (N.tn ⟨a', c', rfl⟩))
  clear hA hB
  subst hrec
  clear hr0
  have hcall := hseq (w2.heap.size + 1) (apJ (apRec fn tm #[7] As Bs w2.heap.size .ready none) (w2.heap.size + 1) w2.heap.size bs) (fun pre x hp => apRound hsz h2' hp hA' hB')
  have hsz1 : (w2.alloc (.deferred (some []))).heap.size = w2.heap.size + 1 := by simp
  rw [hsz1] at t4
  have t5 := St.ent (apJ_shut (pre := []) (L := A ++ F)) (St.ent (Ent.cons (Ent.cons (Ent.cons slO_nil))) t4)
  refine (CallsS.run hcall t5).mono ?_
  rintro e w3 ⟨v, L', rfl, t6, ks, hks, rfl⟩
  obtain ⟨a, c, t7⟩ := apJ_open (L := A' ++ F) t6
  refine ⟨v, _, rfl, run_endLoop (St.pt_read t7) (by simp [apRec]), ?_⟩
  have t8 := St.obj (o' := .loop { apRec fn tm #[7] As Bs w2.heap.size .ready none with state := .exhausted }) t7
  have t9 := t8.tail
  generalize w3.putObj (w2.heap.size + 1) (.loop { apRec fn tm #[7] As Bs w2.heap.size .ready none with state := .exhausted }) = w4 at t9
  have hD := St.pt_read t9
  have hcell := St.pt_read t9.tail
  simp only [Exit.inBlock, Exit.then]
  have hload : (Instr.loadAt 98 (.pointer (some ⟨bs, 0, none⟩))).run Tryd.prog w4 = .ok (.slice a ks.length c) w4 := run_loadVar1 (P := Tryd.prog) (b := bs) (o := 0) (by simp [World.cell?, hcell, cl])
  have hd0 : a2.tmps.getD 2 undef = .pointer (some ⟨bs, 0, none⟩) := s2.at_ 2 _ h2
  have hd1 : a2.tmps.size = 13 := s2.size
  have hd2 : a2.defers = [] := s2.defers
  refine wpIn_seq (wpIn_region_lit ?_)
  refine wpListIn_plain rfl fun K hK => ⟨fun _ _ => trivial, ?_⟩
  rw [Oper.semAt_eq _ _ _ (fun _ h => by cases h)]
  simp only [execOp, Act.eval, hd0, Sem.run_bind, hload, Result.andThen_ok, Sem.run_pure]
  refine hK _ _ (wpListIn_plain rfl fun K' hK' => ⟨fun _ _ => trivial, ?_⟩)
  rw [Oper.semAt_eq _ _ _ (fun _ h => by cases h)]
  simp only [execOp, Act.eval, Sem.run_pure]
  refine hK' _ _ (wpListIn_nil (wpIn_ret ?_))
  refine ⟨by simp, .inl ⟨_, _, rfl, run_takeDeferred hD, ?_⟩⟩
  rw [hd2]
  refine ⟨_, results_tmp rfl _ _ _, _, slO 30 1 a ks.length c (ks.map U64) :: A', ?_, (St.obj (o' := .deferred none) t9).tail.tail, ks, a, c, hks, rfl, rfl⟩
  simp [Act.put, hd1]
theorem Collect_spec (gf : FuncId) (lb : List Value) [he : Enters Tryd.prog gf] (Sp : List Int → Prop) (A A' : List HP) (hseq : SeqS Tryd.prog gf lb U64 17592186044416 Sp A A') :
    CallsS Tryd.prog 66 [.func (.func gf) #[] lb.toArray] A (fun v L' => ∃ ks a c, Sp ks ∧ v = .slice a ks.length c ∧ L' = slO 30 1 a ks.length c (ks.map U64) :: A') := by
  refine CallsS.of_body Tryd.func66 rfl rfl rfl ?_
  refine Q.r ?_; (repeat (intro b1; refine Q.r ?_))
  refine S.cr rfl (AppendSeq_spec gf lb Sp A A' hseq) ?_
  rintro _ _ ⟨ks, a, c, hks, rfl, rfl⟩
  refine Q.r ?_; (repeat (intro b1; refine Q.r ?_))
  exact N.r1 (RV.tmp rfl RV.nil) (Ent.refl _) ⟨ks, a, c, hks, rfl, rfl⟩
end Go.Proofs.YtjidejcehmamkaaDoor
