/- slices.AppendSeq, slices.Collect, maps.Keys at keys of type uint64, walked. Vectors, ops; slices.ContainsFunc at several types.  By a program (wip/gen/vec.py). Vectors, walked: Right, Clone, CutVec, SameVec. Arrays of numbers in an owned block. Shifts, bits, a string's byte. Chains: what they are; Len, Last, Search, after, At. Chains: after, At, copyOf, Put, New, List. Chains: copyOf, Put, New, List. The vault: what it is; holds, Check, copyOf. The scroll's writer: numbers, vectors, bytes. The vault: its state; holder, Blocked, open. The vault: copyOf, New, Lock. The vault: Apply, Free. maps.Keys at maps with keys of type uint64, walked. slices.Sort's parts at numbers of type uint64, walked: cmp.Less, insertionSort. slices.Sort's parts at numbers of type uint64, walked: siftDown, heapSort. slices.Sort's parts at numbers of type uint64, walked: heapSort, reverseRange. slices.Sort's parts at numbers of type uint64, walked: partition.  By a program (wip/gen/srt.py). slices.Sort's parts at numbers of type uint64, walked: partitionEqual.  By a program (wip/gen/srt.py). slices.Sort's parts at numbers of type uint64, walked: partialInsertionSort. slices.Sort's parts at numbers of type uint64, walked: the pivot. slices.Sort's parts at numbers of type uint64, walked: bits.Len, breakPatterns. No condition. -/
import Derived.Sort.Defs
import Derived.Sort.LotD1
import Derived.Test.YtiampehfpgcogaaGreatDoorPk02
set_option linter.unusedVariables false
set_option linter.unusedSimpArgs false
set_option linter.unusedSectionVars false
namespace Go.Proofs.YtiampehfpgcogaaGreatDoor
open Go Go.SX
attribute [local irreducible] swp opsS thenS blockS retS CallsS St Ent YieldS anyS drawS
attribute [local irreducible] opsI
abbrev U64 : Int → Value := Value.int .u64
def apRec (fn : FuncId) (tmps : Array Value) (ps : Array Tmp) (assign body : Code) (D : Nat) (st : LoopState) (pe : Option Code) : Loop := { state := st,pending := pe,fn,tmps,params := ps,assign,body,defers := D }
def apJ (rec : Loop) (l D bs : Nat) (pre : List Int) : HP := exH fun x : Option Addr × Nat => allH [pt l (.loop rec),pt D (.deferred (some [])),pt bs (cl [.slice x.1 pre.length x.2] 92),slO 29 1 x.1 pre.length x.2 (pre.map U64)]
theorem apJ_shut {rec : Loop} {l D bs : Nat} {pre : List Int} {a : Option Addr} {c : Nat} {L : List HP} : Ent (pt l (.loop rec) :: pt D (.deferred (some [])) :: pt bs (cl [.slice a pre.length c] 92) :: slO 29 1 a pre.length c (pre.map U64) :: L) (apJ rec l D bs pre :: L) :=
 Ent.trans (Ent.shut_all (L := [_,_,_,_])) (Ent.shut_ex (P := fun x : Option Addr × Nat => allH [pt l (.loop rec),pt D (.deferred (some [])),pt bs (cl [.slice x.1 pre.length x.2] 92),slO 29 1 x.1 pre.length x.2 (pre.map U64)]) (a,c))
theorem apJ_open {rec : Loop} {l D bs : Nat} {pre : List Int} {w : World} {L : List HP} (H : St w (apJ rec l D bs pre :: L)) : ∃ a c,St w (pt l (.loop rec) :: pt D (.deferred (some [])) :: pt bs (cl [.slice a pre.length c] 92) :: slO 29 1 a pre.length c (pre.map U64) :: L) := by
 obtain ⟨x,H⟩ := St.open_ex H
 exact ⟨x.1,x.2,St.ent (Ent.open_all (L := [_,_,_,_])) H⟩
theorem St.obj {w : World} {l : Nat} {o o' : Obj} {L : List HP} (H : St w (pt l o :: L)) : St (w.putObj l o') (pt l o' :: L) := by
 have hl := St.pt_read H
 have hlt : l < w.heap.size := (Array.getElem?_eq_some_iff.1 hl).1
 exact St.pt_write H (World.putObj_heap_same hlt) (fun k hk => World.putObj_heap_other hk) rfl
set_option maxHeartbeats 2000000 in
theorem apRound {fn : FuncId} {tm : Array Value} {l D bs : Nat} {pre : List Int} {x : Int} {assign body : Code} (htm : tm.size = 13) (hbs : tm[2]? = some (.pointer (some ⟨bs,0,none⟩))) (hN : pre.length < 17592186044416)
  (ha : assign = .region 2 ([⟨some 5,.assign (.tmp 7),29, "iter.go:51",#[],none⟩] : List Oper).toArray false)
  (hb : ∃ l1 id,body = .block 1 (.region id (l1 : List Oper).toArray false) ∧ okOps 13 l1 = true ∧
   ∀ (v : Int) (a : Option Addr) (c k : Nat) (cs : List Value),k < 17592186044416 → opsI Tryz.prog 13 (some l) l1 l1 (thenS (fun f L => ∃ a' c',L = [pt bs (cl [.slice a' (k + 1) c'] 92),slO 29 1 a' (k + 1) c' (cs ++ [U64 v])]) (fun _ _ _ => False)) (updAll [(2,.pointer (some ⟨bs,0,none⟩)),(5,U64 v)]) [pt bs (cl [.slice a k c] 92),slO 29 1 a k c cs]) :
  RoundS Tryz.prog l (U64 x) [apJ (apRec fn tm #[7] assign body D .ready none) l D bs pre] [apJ (apRec fn tm #[7] assign body D .ready none) l D bs (pre ++ [x])] := by
 intro F w t
 obtain ⟨a,c,t⟩ := apJ_open (L := F) (by simpa using t)
 have hl := St.pt_read t
 obtain ⟨l1,id,hbd,hok1,hb⟩ := hb
 refine ⟨fn,tm.setIfInBounds 7 (U64 x),_,_,by simpa [apRec] using run_yield (P := Tryz.prog) (args := #[U64 x]) hl rfl,roundIn_of_wpIn trivial ?_⟩
 have s0 : Sim 13 { tmps := tm.setIfInBounds 7 (U64 x),defers := [] } (updAll [(2,.pointer (some ⟨bs,0,none⟩)),(7,U64 x)]) := by
  refine ⟨rfl,by simp [htm],fun i v e => ?_⟩
  simp only [updAll,upd,e0] at e
  by_cases h2 : i = 2
  ·subst h2
   cases e
   rw [Array.getD_eq_getD_getElem?,Array.getElem?_setIfInBounds_ne (by omega),hbs];rfl
  ·by_cases h7 : i = 7
   ·subst h7
    cases e
    simp [htm]
   ·rw [beq_ne h2,beq_ne h7] at e;cases e
 have hwa : ∀ Q a w,(Code.region 2 ([⟨some 5,.assign (.tmp 7),29, "iter.go:51",#[],none⟩] : List Oper).toArray false).wpIn (WF (some l)) 0 Tryz.prog Q a w → assign.wpIn (WF (some l)) 0 Tryz.prog Q a w := fun Q a w h => by rw [ha];exact h
 refine hwa _ _ _ (wpIn_round (r := some l) (n := 13) (L := [pt l (.loop (apRec fn tm #[7] assign body D .ready none)),pt D (.deferred (some [])),pt bs (cl [.slice a pre.length c] 92),slO 29 1 a pre.length c (pre.map U64)]) (F := F) (K := fun f L => f 2 = some (.pointer (some ⟨bs,0,none⟩)) ∧ f 5 = some (U64 x) ∧ L = [pt l (.loop (apRec fn tm #[7] assign body D .ready none)),pt D (.deferred (some [])),pt bs (cl [.slice a pre.length c] 92),slO 29 1 a pre.length c (pre.map U64)]) ?_ rfl s0 t ?_)
 ·refine opsI_one (fun _ h => by cases h) rfl ?_
  repeat (first | (refine GQ.y ?_;refine Q.y ?_) | refine Q.go ?_ | (refine GQ.g ?_;refine Q.gq ?_) | (refine GQ.s ?_;refine Q.st ?_))
  exact opsI_nil (N.tn ⟨rfl,rfl,rfl⟩)
 rintro f L a1 w1 ⟨h2,h5,rfl⟩ s1 t1
 refine ⟨_,run_beginRound (St.pt_read t1) rfl,?_⟩
 have t2 := St.obj (o' := .loop { (apRec fn tm #[7] assign body D .ready none) with state := .busy }) (L := [pt D (.deferred (some [])),pt bs (cl [.slice a pre.length c] 92),slO 29 1 a pre.length c (pre.map U64)] ++ F) t1
 have t3 : St _ ([pt bs (cl [.slice a pre.length c] 92),slO 29 1 a pre.length c (pre.map U64)] ++ (pt l (.loop { (apRec fn tm #[7] assign body D .ready none) with state := .busy }) :: pt D (.deferred (some [])) :: F)) :=
  St.rot2 t2
 have hwp : ∀ Q a w,(Code.block 1 (.region id l1.toArray false)).wpIn (WF (some l)) 0 Tryz.prog Q a w → body.wpIn (WF (some l)) 0 Tryz.prog Q a w := fun Q a w h => by rw [hbd];exact h
 refine hwp _ _ _ (wpIn_block (wpIn_round (r := some l) (n := 13) (F := _) (hb x a c pre.length (pre.map U64) hN) hok1 (s1.weaken (updAll_le ⟨h2,h5,trivial⟩)) t3 ?_))
 rintro f L a2 w2 ⟨a',c',rfl⟩ s2 t4
 have t5 : St w2 (pt l (.loop { (apRec fn tm #[7] assign body D .ready none) with state := .busy }) :: pt D (.deferred (some [])) :: ([pt bs (cl [.slice a' (pre.length + 1) c'] 92),slO 29 1 a' (pre.length + 1) c' (pre.map U64 ++ [U64 x])] ++ F)) :=
  St.rot2 t4
 refine ⟨_,_,run_endRound none (St.pt_read t5),rfl,?_⟩
 have t6 := St.obj (o' := .loop (apRec fn tm #[7] assign body D .ready none)) t5
 have e1 : pre.length + 1 = (pre ++ [x]).length := by simp
 have e2 : pre.map U64 ++ [U64 x] = (pre ++ [x]).map U64 := by simp
 rw [e1,e2] at t6
 have t7 := St.ent (apJ_shut (L := F)) t6
 simpa [apRec] using t7
set_option maxHeartbeats 2000000 in
theorem AppendSeq_spec (gf : FuncId) (lb : List Value) [he : Enters Tryz.prog gf] (Sp : List Int → Prop) (A A' : List HP) (hseq : SeqS Tryz.prog gf lb U64 17592186044416 Sp A A') :
  CallsS Tryz.prog 128 [.slice none 0 0,.func (.func gf) #[] lb.toArray] A (fun v L' => ∃ ks a c,Sp ks ∧ v = .slice a ks.length c ∧ L' = slO 29 1 a ks.length c (ks.map U64) :: A') := by
 refine CallsS.mk' fun F w t => ?_
 refine (callsIn_wide (n := 1)).1 (callsIn_of_wp_marks Tryz.func128 rfl trivial ?_)
 have s0 : Sim 13 { tmps := #[.slice none 0 0,.func (.func gf) #[] lb.toArray] ++ Array.replicate 11 undef,defers := [] } (argEnv [.slice none 0 0,.func (.func gf) #[] lb.toArray] 0) := by
  refine ⟨rfl,by simp,fun i v e => ?_⟩
  obtain ⟨_,h2⟩ := argEnv_at _ 0 i v e
  simp only [Nat.sub_zero] at h2
  have hi : i < 2 := (List.getElem?_eq_some_iff.1 h2).1
  match i,hi,h2 with
  | 0,_,h2 => simpa using h2
  | 1,_,h2 => simpa using h2
 refine wpIn_of_swp (n := 13) (F := F) (K := fun f L => ∃ bs,f 1 = some (.func (.func gf) #[] lb.toArray) ∧ f 2 = some (.pointer (some ⟨bs,0,none⟩)) ∧ L = pt bs (cl [.slice none 0 0] 92) :: A) ?_ rfl s0 t ?_
 ·refine Q.r ?_;(repeat (intro b1;refine Q.r ?_))
  exact ⟨_,rfl,rfl,rfl⟩
 rintro f L a1 w1 ⟨bs,h1,h2,rfl⟩ s1 t1
 refine wpIn_seq ?_
 refine wpIn_of_swp (n := 13) (F := F) (K := fun f L => f 6 = some (.func (.func gf) #[] lb.toArray) ∧ f 2 = some (.pointer (some ⟨bs,0,none⟩)) ∧ L = pt bs (cl [.slice none 0 0] 92) :: A) (f := updAll [(1,.func (.func gf) #[] lb.toArray),(2,.pointer (some ⟨bs,0,none⟩))]) ?_ rfl (s1.weaken (updAll_le ⟨h1,h2,trivial⟩)) t1 ?_
 ·refine Q.r ?_;(repeat (intro b1;refine Q.r ?_))
  exact ⟨rfl,rfl,rfl⟩
 rintro f L a2 w2 ⟨h6,h2,rfl⟩ s2 t2
 obtain ⟨tm,htm⟩ : ∃ tm,tm = a2.tmps := ⟨_,rfl⟩
 have hsz : tm.size = 13 := by rw [htm];exact s2.size
 have h2' : tm[2]? = some (.pointer (some ⟨bs,0,none⟩)) := by
  have := s2.at_ 2 _ h2
  rw [← htm,Array.getD_eq_getD_getElem?] at this
  have hlt : 2 < tm.size := by omega
  rw [Array.getElem?_eq_getElem hlt] at this ⊢
  simpa using this
 have hev : a2.eval (.tmp 6) = .func (.func gf) #[] lb.toArray := s2.eval (x := .tmp 6) h6
 refine wpIn_block (wpIn_rangeF hev fun fn => ?_)
 have t3 := St.pt_new (w' := w2.alloc (.deferred (some []))) t2 rfl rfl
 generalize hr0 : ({ state := .ready,pending := none,fn,tmps := a2.tmps,params := #[7],assign := _,body := _,defers := w2.heap.size } : Loop) = rec
 have t4 := St.pt_new (w' := (w2.alloc (.deferred (some []))).alloc (.loop rec)) t3 rfl rfl
 obtain ⟨As,hA⟩ : ∃ A,A = rec.assign := ⟨_,rfl⟩
 obtain ⟨Bs,hB⟩ : ∃ B,B = rec.body := ⟨_,rfl⟩
 have hrec : rec = apRec fn tm #[7] As Bs w2.heap.size .ready none := by rw [hA,hB,htm,← hr0];rfl
 have hA' : As = .region 2 ([⟨some 5,.assign (.tmp 7),29, "iter.go:51",#[],none⟩] : List Oper).toArray false := by rw [hA,← hr0]
 have hB' : ∃ l1 id,Bs = .block 1 (.region id (l1 : List Oper).toArray false) ∧ okOps 13 l1 = true ∧
   ∀ (v : Int) (a : Option Addr) (c k : Nat) (cs : List Value),k < 17592186044416 → opsI Tryz.prog 13 (some (w2.heap.size + 1)) l1 l1 (thenS (fun f L => ∃ a' c',L = [pt bs (cl [.slice a' (k + 1) c'] 92),slO 29 1 a' (k + 1) c' (cs ++ [U64 v])]) (fun _ _ _ => False)) (updAll [(2,.pointer (some ⟨bs,0,none⟩)),(5,U64 v)]) [pt bs (cl [.slice a k c] 92),slO 29 1 a k c cs] := by
  refine ⟨_,3,by rw [hB,← hr0],rfl,fun v a c k cs hk => ?_⟩
  refine opsI_one (fun _ h => by cases h) rfl ?_
  refine Q.r ?_;(repeat (intro b1;refine Q.r ?_))
  refine opsI_one (fun _ h => by cases h) rfl ?_
  refine Q.r ?_;(repeat (intro b1;refine Q.r ?_))
  refine opsI_one (fun _ h => by cases h) rfl ?_
  refine Q.r ?_;(repeat (intro b1;refine Q.r ?_))
  refine opsI_one (fun _ h => by cases h) rfl ?_
  refine S.app rfl rfl (SrcS.sl RdC.row (by rfl) (by rfl)) (by rfl) (by omega) (by omega) (fun a' c' => ?_)
  refine Q.r ?_;(repeat (intro b1;refine Q.r ?_))
  refine opsI_one (fun _ h => by cases h) rfl ?_
  refine Q.r ?_;(repeat (intro b1;refine Q.r ?_))
  exact opsI_ent (Ent.drop (Ent.refl _)) (opsI_nil (N.tn ⟨a',c',rfl⟩))
 clear hA hB
 subst hrec
 clear hr0
 have hcall := hseq (w2.heap.size + 1) (apJ (apRec fn tm #[7] As Bs w2.heap.size .ready none) (w2.heap.size + 1) w2.heap.size bs) (fun pre x hp => apRound hsz h2' hp hA' hB')
 have hsz1 : (w2.alloc (.deferred (some []))).heap.size = w2.heap.size + 1 := by simp
 rw [hsz1] at t4
 have t5 := St.ent (apJ_shut (pre := []) (L := A ++ F)) (St.ent (Ent.cons (Ent.cons (Ent.cons slO_nil))) t4)
 refine (CallsS.run hcall t5).mono ?_
 rintro e w3 ⟨v,L',rfl,t6,ks,hks,rfl⟩
 obtain ⟨a,c,t7⟩ := apJ_open (L := A' ++ F) t6
 refine ⟨v,_,rfl,run_endLoop (St.pt_read t7) (by simp [apRec]),?_⟩
 have t8 := St.obj (o' := .loop { apRec fn tm #[7] As Bs w2.heap.size .ready none with state := .exhausted }) t7
 have t9 := t8.tail
 generalize w3.putObj (w2.heap.size + 1) (.loop { apRec fn tm #[7] As Bs w2.heap.size .ready none with state := .exhausted }) = w4 at t9
 have hD := St.pt_read t9
 have hcell := St.pt_read t9.tail
 simp only [Exit.inBlock,Exit.then]
 have hload : (Instr.loadAt 92 (.pointer (some ⟨bs,0,none⟩))).run Tryz.prog w4 = .ok (.slice a ks.length c) w4 := run_loadVar1 (P := Tryz.prog) (b := bs) (o := 0) (by simp [World.cell?,hcell,cl])
 have hd0 : a2.tmps.getD 2 undef = .pointer (some ⟨bs,0,none⟩) := s2.at_ 2 _ h2
 have hd1 : a2.tmps.size = 13 := s2.size
 have hd2 : a2.defers = [] := s2.defers
 refine wpIn_seq (wpIn_region_lit ?_)
 refine wpListIn_plain rfl fun K hK => ⟨fun _ _ => trivial,?_⟩
 rw [Oper.semAt_eq _ _ _ (fun _ h => by cases h)]
 simp only [execOp,Act.eval,hd0,Sem.run_bind,hload,Result.andThen_ok,Sem.run_pure]
 refine hK _ _ (wpListIn_plain rfl fun K' hK' => ⟨fun _ _ => trivial,?_⟩)
 rw [Oper.semAt_eq _ _ _ (fun _ h => by cases h)]
 simp only [execOp,Act.eval,Sem.run_pure]
 refine hK' _ _ (wpListIn_nil (wpIn_ret ?_))
 refine ⟨by simp,.inl ⟨_,_,rfl,run_takeDeferred hD,?_⟩⟩
 rw [hd2]
 refine ⟨_,results_tmp rfl _ _ _,_,slO 29 1 a ks.length c (ks.map U64) :: A',?_,(St.obj (o' := .deferred none) t9).tail.tail,ks,a,c,hks,rfl,rfl⟩
 simp [Act.put,hd1]
theorem Collect_spec (gf : FuncId) (lb : List Value) [he : Enters Tryz.prog gf] (Sp : List Int → Prop) (A A' : List HP) (hseq : SeqS Tryz.prog gf lb U64 17592186044416 Sp A A') :
  CallsS Tryz.prog 105 [.func (.func gf) #[] lb.toArray] A (fun v L' => ∃ ks a c,Sp ks ∧ v = .slice a ks.length c ∧ L' = slO 29 1 a ks.length c (ks.map U64) :: A') := by
 refine CallsS.of_body Tryz.func105 rfl rfl rfl ?_
 refine Q.r ?_;(repeat (intro b1;refine Q.r ?_))
 refine S.cr rfl (AppendSeq_spec gf lb Sp A A' hseq) ?_
 rintro _ _ ⟨ks,a,c,hks,rfl,rfl⟩
 refine Q.r ?_;(repeat (intro b1;refine Q.r ?_))
 exact N.r1 (RV.tmp rfl RV.nil) (Ent.refl _) ⟨ks,a,c,hks,rfl,rfl⟩
end Go.Proofs.YtiampehfpgcogaaGreatDoor
namespace Go.Proofs.YtiampehfpgcogaaGreatDoor
open Go Go.SX
attribute [local irreducible] swp opsS thenS blockS retS CallsS St Ent YieldS anyS drawS
abbrev I32 : Int → Value := Value.int .i32
abbrev cI (z : Int) : List Value := [I32 z]
abbrev cU (z : Int) : List Value := [U64 z]
structure OV where
 id : Int
 a : Option Addr
 c : Nat
 vec : List Int
abbrev OV.cells (o : OV) : List Value := [.int .u64 o.id,.slice o.a o.vec.length o.c]
abbrev OV.val (o : OV) : Value := .agg #[.int .u64 o.id,.slice o.a o.vec.length o.c]
abbrev OV.abs (o : OV) : Int × List Int := (o.id,o.vec)
theorem flat_I (xs : List Int) : xs.flatMap cI = xs.map I32 := by induction xs with
 | nil => rfl
 | cons x xs ih => rw [List.flatMap_cons,ih];rfl
theorem flat_U (xs : List Int) : xs.flatMap cU = xs.map U64 := by induction xs with
 | nil => rfl
 | cons x xs ih => rw [List.flatMap_cons,ih];rfl
theorem I_one (xs : List Int) : (xs.map I32).all (·.oneCell') = true := by simp [Value.oneCell']
theorem OV_one (xs : List OV) : (xs.flatMap OV.cells).all (·.oneCell') = true := by simp [Value.oneCell']
theorem IdxI_spec (f : FuncId) (fs cs : List Value) [he : Enters Tryz.prog f] (p : Int → Bool) (a : Option Addr) (c : Nat) (xs : List Int) (A : List HP) (h : RdS A a xs.length 1 (xs.flatMap cI)) (hn : xs.length ≤ 4611686018427387904)
  (hf : ∀ x ∈ xs,CallsS Tryz.prog f (fs ++ [I32 x] ++ cs) A (fun v L' => v = .bool (p x) ∧ L' = A)) :
  CallsS Tryz.prog 155 [.slice a xs.length c,.func (.func f) fs.toArray cs.toArray] A (fun v L' => (∃ i : Int,v = .int .i64 i ∧ decide (0 ≤ i) = xs.any p) ∧ L' = A) := by
 refine CallsS.of_body Tryz.func155 rfl rfl rfl ?_
 refine Q.r ?_;(repeat (intro b1;refine Q.r ?_))
 refine swp_loop (σ := Nat) (fun k => [(0,.slice a xs.length c),(1,.func (.func f) fs.toArray cs.toArray),(7,.int .i64 xs.length),(8,.int .i64 k)]) (fun _ => A)
  (fun k => k ≤ xs.length ∧ (xs.take k).any p = false) (fun k => xs.length - k) 0 ⟨rfl,rfl,rfl,rfl,trivial⟩ (Ent.refl _) ⟨by omega,by simp⟩ ?_
 rintro k ⟨hk,hany⟩
 by_cases hlt : k < xs.length
 ·obtain ⟨x,hx⟩ := mem_get hlt
  obtain ⟨b,o,rfl,hr⟩ := RdS.elem (g := cI) (fun _ => rfl) h hx rfl
  have hmx : x ∈ xs := List.mem_of_getElem? hx
  refine Q.r ?_;(repeat (intro b1;refine Q.r ?_))
  refine S.crF (fs := fs) (cs := cs) rfl rfl (hf x hmx) ?_
  rintro _ _ ⟨rfl,rfl⟩
  cases hp : p x with
  | true =>
   refine Q.r ?_;(repeat (intro b1;refine Q.r ?_))
   exact N.r1 (RV.tmp rfl RV.nil) (Ent.refl _) ⟨⟨_,rfl,by rw [show xs.any p = true from List.any_eq_true.2 ⟨x,hmx,hp⟩];simp⟩,rfl⟩
  | false =>
   refine Q.r ?_;(repeat (intro b1;refine Q.r ?_))
   refine ⟨k + 1,⟨rfl,rfl,rfl,rfl,trivial⟩,Ent.refl _,⟨by omega,?_⟩,by omega⟩
   rw [take_snoc hx,List.any_append,hany] <;> simp [hp]
 ·have hke : k = xs.length := by omega
  subst hke
  rw [List.take_length] at hany
  refine Q.r ?_;(repeat (intro b1;refine Q.r ?_))
  exact N.r1 (RV.tmp rfl RV.nil) (Ent.refl _) ⟨⟨_,rfl,by rw [hany] <;> rfl⟩,rfl⟩
theorem HasI_spec (f : FuncId) (fs cs : List Value) [he : Enters Tryz.prog f] (p : Int → Bool) (a : Option Addr) (c : Nat) (xs : List Int) (A : List HP) (h : RdS A a xs.length 1 (xs.flatMap cI)) (hn : xs.length ≤ 4611686018427387904)
  (hf : ∀ x ∈ xs,CallsS Tryz.prog f (fs ++ [I32 x] ++ cs) A (fun v L' => v = .bool (p x) ∧ L' = A)) :
  CallsS Tryz.prog 136 [.slice a xs.length c,.func (.func f) fs.toArray cs.toArray] A (fun v L' => v = .bool (xs.any p) ∧ L' = A) := by
 refine CallsS.of_body Tryz.func136 rfl rfl rfl ?_
 refine Q.r ?_;(repeat (intro b1;refine Q.r ?_))
 refine S.cr rfl (IdxI_spec f fs cs p a c xs A h hn hf) ?_
 rintro _ _ ⟨⟨i,rfl,hi⟩,rfl⟩
 refine Q.r ?_;(repeat (intro b1;refine Q.r ?_))
 exact N.r1 (RV.tmp rfl RV.nil) (Ent.refl _) ⟨by rw [← hi],rfl⟩
theorem IdxO_spec (f : FuncId) (fs cs : List Value) [he : Enters Tryz.prog f] (p : OV → Bool) (a : Option Addr) (c : Nat) (xs : List OV) (A : List HP) (h : RdS A a xs.length 2 (xs.flatMap OV.cells)) (hn : xs.length ≤ 4611686018427387904)
  (hf : ∀ x ∈ xs,CallsS Tryz.prog f (fs ++ [OV.val x] ++ cs) A (fun v L' => v = .bool (p x) ∧ L' = A)) :
  CallsS Tryz.prog 134 [.slice a xs.length c,.func (.func f) fs.toArray cs.toArray] A (fun v L' => (∃ i : Int,v = .int .i64 i ∧ decide (0 ≤ i) = xs.any p) ∧ L' = A) := by
 refine CallsS.of_body Tryz.func134 rfl rfl rfl ?_
 refine Q.r ?_;(repeat (intro b1;refine Q.r ?_))
 refine swp_loop (σ := Nat) (fun k => [(0,.slice a xs.length c),(1,.func (.func f) fs.toArray cs.toArray),(7,.int .i64 xs.length),(8,.int .i64 k)]) (fun _ => A)
  (fun k => k ≤ xs.length ∧ (xs.take k).any p = false) (fun k => xs.length - k) 0 ⟨rfl,rfl,rfl,rfl,trivial⟩ (Ent.refl _) ⟨by omega,by simp⟩ ?_
 rintro k ⟨hk,hany⟩
 by_cases hlt : k < xs.length
 ·obtain ⟨x,hx⟩ := mem_get hlt
  obtain ⟨b,o,rfl,hr⟩ := RdS.elem (g := OV.cells) (fun _ => rfl) h hx rfl
  have hmx : x ∈ xs := List.mem_of_getElem? hx
  refine Q.r ?_;(repeat (intro b1;refine Q.r ?_))
  refine S.crF (fs := fs) (cs := cs) rfl rfl (hf x hmx) ?_
  rintro _ _ ⟨rfl,rfl⟩
  cases hp : p x with
  | true =>
   refine Q.r ?_;(repeat (intro b1;refine Q.r ?_))
   exact N.r1 (RV.tmp rfl RV.nil) (Ent.refl _) ⟨⟨_,rfl,by rw [show xs.any p = true from List.any_eq_true.2 ⟨x,hmx,hp⟩];simp⟩,rfl⟩
  | false =>
   refine Q.r ?_;(repeat (intro b1;refine Q.r ?_))
   refine ⟨k + 1,⟨rfl,rfl,rfl,rfl,trivial⟩,Ent.refl _,⟨by omega,?_⟩,by omega⟩
   rw [take_snoc hx,List.any_append,hany] <;> simp [hp]
 ·have hke : k = xs.length := by omega
  subst hke
  rw [List.take_length] at hany
  refine Q.r ?_;(repeat (intro b1;refine Q.r ?_))
  exact N.r1 (RV.tmp rfl RV.nil) (Ent.refl _) ⟨⟨_,rfl,by rw [hany] <;> rfl⟩,rfl⟩
theorem HasO_spec (f : FuncId) (fs cs : List Value) [he : Enters Tryz.prog f] (p : OV → Bool) (a : Option Addr) (c : Nat) (xs : List OV) (A : List HP) (h : RdS A a xs.length 2 (xs.flatMap OV.cells)) (hn : xs.length ≤ 4611686018427387904)
  (hf : ∀ x ∈ xs,CallsS Tryz.prog f (fs ++ [OV.val x] ++ cs) A (fun v L' => v = .bool (p x) ∧ L' = A)) :
  CallsS Tryz.prog 118 [.slice a xs.length c,.func (.func f) fs.toArray cs.toArray] A (fun v L' => v = .bool (xs.any p) ∧ L' = A) := by
 refine CallsS.of_body Tryz.func118 rfl rfl rfl ?_
 refine Q.r ?_;(repeat (intro b1;refine Q.r ?_))
 refine S.cr rfl (IdxO_spec f fs cs p a c xs A h hn hf) ?_
 rintro _ _ ⟨⟨i,rfl,hi⟩,rfl⟩
 refine Q.r ?_;(repeat (intro b1;refine Q.r ?_))
 exact N.r1 (RV.tmp rfl RV.nil) (Ent.refl _) ⟨by rw [← hi],rfl⟩
def badC (z : Int) : Bool := decide (z < -268435456) || decide (268435456 < z)
def rightV (xs : List Int) : Bool := decide (0 < xs.length) && decide (xs.length ≤ 8) && !xs.any badC
instance : Enters Tryz.prog 137 := en137
theorem Right1_spec (z : Int) (L : List HP) : CallsS Tryz.prog 137 [I32 z] L (fun v L' => v = .bool (badC z) ∧ L' = L) := by
 refine CallsS.of_body Tryz.func137 rfl rfl rfl ?_
 by_cases h : z < -268435456
 ·refine Q.r ?_;(repeat (intro b1;refine Q.r ?_))
  exact N.r1 (RV.tmp rfl RV.nil) (Ent.refl _) ⟨by simp [badC,h],rfl⟩
 ·refine Q.r ?_;(repeat (intro b1;refine Q.r ?_))
  exact N.r1 (RV.tmp rfl RV.nil) (Ent.refl _) ⟨by simp [badC,h],rfl⟩
theorem Right_spec (a : Option Addr) (c : Nat) (xs : List Int) (A : List HP) (h : RdS A a xs.length 1 (xs.map I32)) (hn : xs.length ≤ 4611686018427387904) :
  CallsS Tryz.prog 122 [.slice a xs.length c] A (fun v L' => v = .bool (rightV xs) ∧ L' = A) := by
 refine CallsS.of_body Tryz.func122 rfl rfl rfl ?_
 unfold rightV
 by_cases h0 : 0 < xs.length
 ·by_cases h8 : xs.length ≤ 8
  ·refine Q.r ?_;(repeat (intro b1;refine Q.r ?_))
   refine S.cr rfl (HasI_spec 137 [] [] badC a c xs A (by rw [flat_I];exact h) hn (fun x _ => Right1_spec x A)) ?_
   rintro _ _ ⟨rfl,rfl⟩
   refine Q.r ?_;(repeat (intro b1;refine Q.r ?_))
   exact N.r1 (RV.tmp rfl RV.nil) (Ent.refl _) ⟨by simp [h0,h8],rfl⟩
  ·refine Q.r ?_;(repeat (intro b1;refine Q.r ?_))
   exact N.r1 (RV.tmp rfl RV.nil) (Ent.refl _) ⟨by simp [h0,h8],rfl⟩
 ·refine Q.r ?_;(repeat (intro b1;refine Q.r ?_))
  exact N.r1 (RV.tmp rfl RV.nil) (Ent.refl _) ⟨by simp [h0],rfl⟩
theorem CutVec_spec (a : Option Addr) (c k : Nat) (xs : List Int) (A : List HP) (h : RdS A a xs.length 1 (xs.map I32)) (hc : xs.length ≤ c) (hk : k ≤ 1000000) :
  CallsS Tryz.prog 43 [.slice a xs.length c,.int .i64 k] A (fun v L' => ∃ b c',v = .slice b (xs.take k).length c' ∧ L' = slO 21 1 b (xs.take k).length c' ((xs.take k).map I32) :: A) := by
 refine CallsS.of_body Tryz.func43 rfl rfl rfl ?_
 have hl : (xs.take k).length = min k xs.length := List.length_take ..
 have hr : RdS A a (xs.take k).length 1 ((xs.take k).map I32) := by
  have := h.take (k := min k xs.length) (by omega)
  rw [hl]
  rw [Nat.mul_one,← List.map_take] at this
  rwa [← List.take_eq_take_min] at this
 refine Q.r ?_;(repeat (intro b1;refine Q.r ?_))
 refine opsS_ent (slO_fold (sz := 1) (m := 0) rfl) ?_
 refine S.y (Y.slT (h := (xs.take k).length) rfl rfl (by rw [hl];omega) (by omega)) ?_
 refine S.app0 rfl rfl rfl (SrcS.rd hr.sub (I_one _)) (by rfl) (by omega) (by omega) (fun a5 c5 => ?_)
 refine Q.r ?_;(repeat (intro b1;refine Q.r ?_))
 exact N.r1 (RV.tmp rfl RV.nil) (Ent.refl _) ⟨a5,c5,rfl,rfl⟩
theorem SameVec_spec (a : Option Addr) (c : Nat) (xs : List Int) (a' : Option Addr) (c' : Nat) (ys : List Int) (A : List HP) (h : RdS A a xs.length 1 (xs.map I32)) (h' : RdS A a' ys.length 1 (ys.map I32)) (hn : xs.length ≤ 4611686018427387904) :
  CallsS Tryz.prog 79 [.slice a xs.length c,.slice a' ys.length c'] A (fun v L' => v = .bool (decide (xs = ys)) ∧ L' = A) := by
 refine CallsS.of_body Tryz.func79 rfl rfl rfl ?_
 by_cases hl : xs.length = ys.length
 ·refine Q.r ?_;(repeat (intro b1;refine Q.r ?_))
  refine swp_loop (σ := Nat) (fun k => [(0,.slice a xs.length c),(1,.slice a' ys.length c'),(12,.int .i64 xs.length),(13,.int .i64 k)]) (fun _ => A)
   (fun k => k ≤ xs.length ∧ xs.take k = ys.take k) (fun k => xs.length - k) 0 ⟨rfl,rfl,rfl,rfl,trivial⟩ (Ent.refl _) ⟨by omega,by simp⟩ ?_
  rintro k ⟨hk,he⟩
  by_cases hlt : k < xs.length
  ·obtain ⟨x,hx⟩ := mem_get hlt
   obtain ⟨y,hy⟩ := mem_get (l := ys) (k := k) (by omega)
   obtain ⟨b,o,rfl,hr⟩ := RdS.elem (g := cI) (l := xs) (fun _ => rfl) (by rw [flat_I];exact h) hx rfl
   obtain ⟨b',o',rfl,hr'⟩ := RdS.elem (g := cI) (l := ys) (fun _ => rfl) (by rw [flat_I];exact h') hy rfl
   by_cases hxy : x = y
   ·refine Q.r ?_;(repeat (intro b1;refine Q.r ?_))
    refine D.start [] [] [0,1,2,3,4,5,6,7,8] _ [] rfl (by kernel_rfl) rfl (by kernel_rfl) NoPanic.no (Ent.refl _) ?_
    refine Q.rd ?_;(repeat (intro b1;refine Q.rd ?_))
    refine Q.r ?_;(repeat (intro b1;refine Q.r ?_))
    exact ⟨k + 1,⟨rfl,rfl,rfl,rfl,trivial⟩,Ent.refl _,⟨by omega,by rw [take_snoc hx,take_snoc hy,he,hxy]⟩,by omega⟩
   ·refine Q.r ?_;(repeat (intro b1;refine Q.r ?_))
    refine D.start [] [] [0,1,2,3,4,5,6,7,8] _ [] rfl (by kernel_rfl) rfl (by kernel_rfl) NoPanic.no (Ent.refl _) ?_
    refine Q.rd ?_;(repeat (intro b1;refine Q.rd ?_))
    refine Q.r ?_;(repeat (intro b1;refine Q.r ?_))
    exact N.r1 (RV.tmp rfl RV.nil) (Ent.refl _) ⟨by rw [decide_eq_false];exact fun e => hxy (by rw [e] at hx;rw [hx] at hy;exact Option.some.inj hy),rfl⟩
  ·have hke : k = xs.length := by omega
   subst hke
   rw [List.take_length,hl,List.take_length] at he
   refine Q.r ?_;(repeat (intro b1;refine Q.r ?_))
   exact N.r1 (RV.tmp rfl RV.nil) (Ent.refl _) ⟨by rw [decide_eq_true he],rfl⟩
 ·refine Q.r ?_;(repeat (intro b1;refine Q.r ?_))
  exact N.r1 (RV.tmp rfl RV.nil) (Ent.refl _) ⟨by rw [decide_eq_false];exact fun e => hl (by rw [e]),rfl⟩
end Go.Proofs.YtiampehfpgcogaaGreatDoor
namespace Go.SX
open Go
def ar (k : IntKind) (d : Array Int) (rest : List Value) : List Value := d.toList.map (Value.int k) ++ rest
theorem ar_len {k : IntKind} {d : Array Int} {rest : List Value} : (ar k d rest).length = d.size + rest.length := by simp [ar]
theorem ar_get {k : IntKind} {d : Array Int} {rest : List Value} {i : Nat} (h : i < d.size) : (ar k d rest)[i]? = some (.int k d[i]!) := by
 unfold ar
 rw [List.getElem?_append_left (by simpa using h)]
 simp [h]
theorem ar_set {k : IntKind} {d : Array Int} {rest : List Value} {i : Nat} {v : Int} (h : i < d.size) : (ar k d rest).set i (.int k v) = ar k (d.setIfInBounds i v) rest := by
 unfold ar
 rw [List.set_append_left _ _ (by simpa using h)]
 simp
section
variable {P : Program} {n : Nat} {ops rest : List Oper} {Q : Post} {f : Env} {A L : List HP} {d : Tmp} {ty : TypeId} {pos : String} {af : Array Edge}
theorem Y.addN {x y : Operand} {t t' : TypeId} {a b : Nat} (hx : ev f x = some (.int .i64 (Int.ofNat a))) (hy : ev f y = some (.int .i64 (Int.ofNat b))) (h : a + b ≤ 9223372036854775807) : YieldS P n ops ⟨some d,.binOp .add t x y t',ty,pos,af,none⟩ f A (.int .i64 ((a + b : Nat) : Int)) :=
 Y.addi hx hy rfl (by omega) (by omega)
theorem Y.subN {x y : Operand} {t t' : TypeId} {a b : Nat} (hx : ev f x = some (.int .i64 (Int.ofNat a))) (hy : ev f y = some (.int .i64 (Int.ofNat b))) (h : b ≤ a ∧ a ≤ 9223372036854775807) : YieldS P n ops ⟨some d,.binOp .sub t x y t',ty,pos,af,none⟩ f A (.int .i64 ((a - b : Nat) : Int)) :=
 Y.subi hx hy (by have := h.1;show (a : Int) - (b : Int) = _;omega) (by omega) (by omega)
theorem Y.mulN {x y : Operand} {t t' : TypeId} {a b : Nat} (hx : ev f x = some (.int .i64 (Int.ofNat a))) (hy : ev f y = some (.int .i64 (Int.ofNat b))) (h : a * b ≤ 9223372036854775807) : YieldS P n ops ⟨some d,.binOp .mul t x y t',ty,pos,af,none⟩ f A (.int .i64 ((a * b : Nat) : Int)) := by
 have := Y.mul (P := P) (n := n) (ops := ops) (A := A) (d := d) (ty := ty) (pos := pos) (af := af) (t := t) (t' := t') hx hy
 have e : (Int.ofNat a) * (Int.ofNat b) = ((a * b : Nat) : Int) := rfl
 rwa [e,wrap_i64 (by omega) (by omega)] at this
theorem Y.quoN {x y : Operand} {t t' : TypeId} {a b : Nat} (hx : ev f x = some (.int .i64 (Int.ofNat a))) (hy : ev f y = some (.int .i64 (Int.ofNat b))) (h : 0 < b ∧ a ≤ 9223372036854775807) : YieldS P n ops ⟨some d,.binOp .quo t x y t',ty,pos,af,none⟩ f A (.int .i64 ((a / b : Nat) : Int)) := by
 have := Y.quo (P := P) (n := n) (ops := ops) (A := A) (d := d) (ty := ty) (pos := pos) (af := af) (t := t) (t' := t') hx hy (by have := h.1;show ¬ (b : Int) = 0;omega)
 have e : (Int.ofNat a).tdiv (Int.ofNat b) = ((a / b : Nat) : Int) := rfl
 have h2 : a / b ≤ a := Nat.div_le_self ..
 have h3 := h.2
 rwa [e,wrap_i64 (by generalize a / b = q at *;omega) (by generalize a / b = q at *;omega)] at this
theorem Y.addC {x y : Operand} {t t' : TypeId} {a b : Nat} (hx : ev f x = some (.int .i64 (Int.ofNat a))) (hy : ev f y = some (.int .i64 (@OfNat.ofNat Int b instOfNat))) (h : a + (@OfNat.ofNat Nat b (instOfNatNat b)) ≤ 9223372036854775807) : YieldS P n ops ⟨some d,.binOp .add t x y t',ty,pos,af,none⟩ f A (.int .i64 ((a + (@OfNat.ofNat Nat b (instOfNatNat b)) : Nat) : Int)) := Y.addN (b := b) hx hy h
theorem Y.subC {x y : Operand} {t t' : TypeId} {a b : Nat} (hx : ev f x = some (.int .i64 (Int.ofNat a))) (hy : ev f y = some (.int .i64 (@OfNat.ofNat Int b instOfNat))) (h : (@OfNat.ofNat Nat b (instOfNatNat b)) ≤ a ∧ a ≤ 9223372036854775807) : YieldS P n ops ⟨some d,.binOp .sub t x y t',ty,pos,af,none⟩ f A (.int .i64 ((a - (@OfNat.ofNat Nat b (instOfNatNat b)) : Nat) : Int)) := Y.subN (b := b) hx hy h
theorem Y.mulC {x y : Operand} {t t' : TypeId} {a b : Nat} (hx : ev f x = some (.int .i64 (Int.ofNat a))) (hy : ev f y = some (.int .i64 (@OfNat.ofNat Int b instOfNat))) (h : a * (@OfNat.ofNat Nat b (instOfNatNat b)) ≤ 9223372036854775807) : YieldS P n ops ⟨some d,.binOp .mul t x y t',ty,pos,af,none⟩ f A (.int .i64 ((a * (@OfNat.ofNat Nat b (instOfNatNat b)) : Nat) : Int)) := Y.mulN (b := b) hx hy h
theorem Y.mulD {x y : Operand} {t t' : TypeId} {a b : Nat} (hx : ev f x = some (.int .i64 (@OfNat.ofNat Int b instOfNat))) (hy : ev f y = some (.int .i64 (Int.ofNat a))) (h : (@OfNat.ofNat Nat b (instOfNatNat b)) * a ≤ 9223372036854775807) : YieldS P n ops ⟨some d,.binOp .mul t x y t',ty,pos,af,none⟩ f A (.int .i64 (((@OfNat.ofNat Nat b (instOfNatNat b)) * a : Nat) : Int)) := Y.mulN (a := b) (b := a) hx hy h
theorem Y.quoC {x y : Operand} {t t' : TypeId} {a b : Nat} (hx : ev f x = some (.int .i64 (Int.ofNat a))) (hy : ev f y = some (.int .i64 (@OfNat.ofNat Int b instOfNat))) (h : 0 < (@OfNat.ofNat Nat b (instOfNatNat b)) ∧ a ≤ 9223372036854775807) : YieldS P n ops ⟨some d,.binOp .quo t x y t',ty,pos,af,none⟩ f A (.int .i64 ((a / (@OfNat.ofNat Nat b (instOfNatNat b)) : Nat) : Int)) := Y.quoN (b := b) hx hy h
theorem Y.iaN {x y : Operand} {t e : TypeId} {b o m c sz bts k : Nat} {ag : Bool} {zs : List Value} {kk : IntKind} [h : SlTy P t e] [h2 : Ty P e ag sz zs bts] (hx : ev f x = some (.slice (some ⟨b,o,none⟩) m c)) (hy : ev f y = some (.int kk (Int.ofNat k))) (h1 : k < m) :
  YieldS P n ops ⟨some d,.indexAddr t x y,ty,pos,af,none⟩ f A (.pointer (some ⟨b,o + k * sz,none⟩)) := Y.ia hx hy rfl h1
theorem Y.ldI {x : Operand} {t t0 sz bts : Nat} {zs : List Value} {b z : Nat} {k : IntKind} {dd : Array Int} {rs : List Value} [h : Ty P t false sz zs bts] [hb : FindB b A (cl (ar k dd rs) t0)] (hx : ev f x = some (.pointer (some ⟨b,0 + z * 1,none⟩))) (hz : z < dd.size) :
  YieldS P n ops ⟨some d,.load t x,ty,pos,af,none⟩ f A (.int k dd[z]!) := Y.ld (h := h) (hb := hb) hx (by rw [Nat.zero_add,Nat.mul_one];exact ar_get hz)
theorem S.stI {x y : Operand} {t t0 bts : Nat} {ag : Bool} {zs : List Value} {b z : Nat} {v : Int} {k : IntKind} {dd : Array Int} {rs : List Value} {L' : Obj → List HP} [h : Ty P t ag 1 zs bts] [hb : UpdB b L (cl (ar k dd rs) t0) L']
  (hx : ev f x = some (.pointer (some ⟨b,0 + z * 1,none⟩))) (hy : ev f y = some (.int k v)) (hz : z < dd.size)
  (hk : opsS P n ops rest Q f (L' (cl (ar k (dd.setIfInBounds z v) rs) t0))) : opsS P n ops (⟨none,.store t x y,ty,pos,af,none⟩ :: rest) Q f L :=
 S.st1 (h := h) (hb := hb) hx hy rfl (Nat.ble_eq_true_of_le (by rw [ar_len];omega)) (by rw [Nat.zero_add,Nat.mul_one];exact ar_set hz) hk
end
theorem swp_size {d : Array Int} {i j : Nat} : (Sort.swp d i j).size = d.size := by simp [Sort.swp]
section
variable {P : Program} {n : Nat} {ops rest : List Oper} {Q : Post} {f : Env} {A L : List HP} {E cs σ : List Nat} {listed : Array Bool} {held : Bool}
variable {d : Tmp} {op : Op} {ty : TypeId} {pos : String} {af : Array Edge} {g : Option (Nat × Bool)} {v : Value}
theorem Q.yn (hk : opsS P n ops rest Q (upd f d v) L) (hy : YieldS P n ops ⟨some d,op,ty,pos,af,g⟩ f L v := by first | exact Y.addN rfl rfl (by omega) | exact Y.addC rfl rfl (by omega) | exact Y.subN rfl rfl (by omega) | exact Y.subC rfl rfl (by omega) | exact Y.iaN rfl rfl (by omega) | exact Y.mulC rfl rfl (by omega) | exact Y.mulD rfl rfl (by omega) | exact Y.quoC rfl rfl (by omega) | exact Y.ldI rfl (by omega)) : opsS P n ops (⟨some d,op,ty,pos,af,g⟩ :: rest) Q f L := S.y hy hk
theorem Q.dyn {i : Nat} (hi : ops[i]? = some ⟨some d,op,ty,pos,af,g⟩) (h9 : Nat.beq i 99999 = false) (hE : E.contains i = false) (h : drawS P n ops E cs A σ Q (listed.setIfInBounds i true) held (upd f d v) L)
  (hy : YieldS P n ops ⟨some d,op,ty,pos,af,g⟩ f [] v := by first | exact Y.addN rfl rfl (by omega) | exact Y.addC rfl rfl (by omega) | exact Y.subN rfl rfl (by omega) | exact Y.subC rfl rfl (by omega) | exact Y.iaN rfl rfl (by omega) | exact Y.mulC rfl rfl (by omega) | exact Y.mulD rfl rfl (by omega) | exact Y.quoC rfl rfl (by omega) | exact Y.guard rfl (by first | exact Y.addN rfl rfl (by omega) | exact Y.addC rfl rfl (by omega) | exact Y.subN rfl rfl (by omega) | exact Y.subC rfl rfl (by omega) | exact Y.iaN rfl rfl (by omega) | exact Y.mulC rfl rfl (by omega) | exact Y.mulD rfl rfl (by omega) | exact Y.quoC rfl rfl (by omega))) : drawS P n ops E cs A (i :: σ) Q listed held f L := D.yp hi h9 hE hy h
theorem Q.dyl {i : Nat} (hi : ops[i]? = some ⟨some d,op,ty,pos,af,g⟩) (h9 : Nat.beq i 99999 = false) (hE : E.contains i = false) (h : drawS P n ops E cs A σ Q (listed.setIfInBounds i true) true (upd f d v) L)
  (hc : (cs.all fun m => m != i && (ops.toArray[m]?).isSome && reach ops.toArray 4 i m) = true := by kernel_rfl) (hy : YieldS P n ops ⟨some d,op,ty,pos,af,g⟩ f A v := by first | exact Y.ldI rfl (by omega) | exact Y.guard rfl (Y.ldI rfl (by omega))) : drawS P n ops E cs A (i :: σ) Q listed true f L := D.y hi h9 hE hc hy h
end
namespace Q
theorem rn {A B : Prop} (hk : B) (h : W B → A := by intro hk;(repeat (first | refine Q.yn ?_ | refine S.stI rfl rfl (by first | omega | (rw [Array.size_setIfInBounds];omega)) ?_ | (refine GQ.y ?_;refine Q.y ?_) | refine Q.go ?_ | (refine GQ.g ?_;refine Q.gq ?_) | (refine GQ.s ?_;refine Q.st ?_) | (refine GQ.g ?_;refine Q.gd ?_) | refine Q.ct rfl ?_ | refine Q.cf rfl ?_));(first | (refine GQ.a ?_;refine Q.al ?_;exact hk.x) | exact hk.x)) : A := h ⟨hk⟩
theorem rdn {A B : Prop} (hk : B) (h : W B → A := by intro hk;(repeat (first | (refine opsS_nil ?_;refine N.tn ?_) | refine Q.dyn rfl rfl rfl ?_ | refine Q.dyl rfl rfl rfl ?_ | refine D.endA ?_ | refine Q.dp rfl rfl rfl ?_ | refine Q.dy rfl rfl rfl ?_ | refine D.end_ ?_ | refine Q.endH ?_ | (refine D.e rfl rfl rfl ?_;(first | refine S.gskip1 rfl ?_ | refine S.gskip rfl ?_ | refine S.y (Y.gskipU rfl) ?_);refine opsS_nil ?_;refine N.tn ?_) | refine Q.dT rfl rfl rfl ?_ | refine Q.dF rfl rfl rfl ?_ | (refine D.e rfl rfl rfl ?_;(refine GQ.s ?_;refine Q.st ?_);refine opsS_nil ?_;refine N.tn ?_)));(first | (refine D.e rfl rfl rfl ?_;refine GQ.a ?_;refine Q.al ?_;exact hk.x) | exact hk.x)) : A := h ⟨hk⟩
theorem rd2 {A B : Prop} (hk : B) (h : W B → A := by intro hk; (repeat (first | refine D.endA ?_ | refine Q.dp rfl rfl rfl ?_ | refine Q.dy rfl rfl rfl ?_ | refine D.end_ ?_ | refine Q.endH ?_ | (refine D.e rfl rfl rfl ?_; (first | refine S.gskip1 rfl ?_ | refine S.gskip rfl ?_ | refine S.y (Y.gskipU rfl) ?_); refine opsS_nil ?_; refine N.tn ?_))); exact hk.x) : A := h ⟨hk⟩
end Q
section
variable {P : Program} {n : Nat} {ops rest : List Oper} {Q : Post} {f : Env} {A L : List HP} {d : Tmp} {ty : TypeId} {pos : String} {af : Array Edge}
theorem Y.ldRj {x : Operand} {t : TypeId} {sz bts : Nat} {zs : List Value} {b o j : Nat} {v : Value} {cs : List Value} [h : Ty P t false sz zs bts] (hx : ev f x = some (.pointer (some ⟨b,o + j,none⟩))) (hr : RdC A b o cs) (hj : cs[j]? = some v) : YieldS P n ops ⟨some d,.load t x,ty,pos,af,none⟩ f A v :=
 Y.ldR hx (hr.at hj)
theorem Y.shr {x y : Operand} {t t' : TypeId} {k k' : IntKind} {a b : Nat} (hx : ev f x = some (.int k (a : Int))) (hy : ev f y = some (.int k' (b : Int))) (hb : b ≤ k.bits) : YieldS P n ops ⟨some d,.binOp .shr t x y t',ty,pos,af,none⟩ f A (.int k ((a / 2 ^ b : Nat) : Int)) :=
 Y.of (fun _ w s => by
  have e1 : ¬ ((b : Int) < 0) := by omega
  have e2 : Min.min b k.bits = b := Nat.min_eq_left hb
  have e3 : (a : Int).fdiv (2 ^ b) = ((a / 2 ^ b : Nat) : Int) := by
   rw [Int.fdiv_eq_ediv_of_nonneg _ (by exact_mod_cast Nat.zero_le _)];norm_cast
  simp [execOp,s.eval hx,s.eval hy,eqGuard,binOp,Op.shift,e1,e2,e3])
theorem Y.shl {x y : Operand} {t t' : TypeId} {k k' : IntKind} {a b : Nat} (hx : ev f x = some (.int k (a : Int))) (hy : ev f y = some (.int k' (b : Int))) (hb : b ≤ k.bits) : YieldS P n ops ⟨some d,.binOp .shl t x y t',ty,pos,af,none⟩ f A (.int k (k.wrap ((a * 2 ^ b : Nat) : Int))) :=
 Y.of (fun _ w s => by
  have e1 : ¬ ((b : Int) < 0) := by omega
  have e2 : Min.min b k.bits = b := Nat.min_eq_left hb
  have e3 : (a : Int) * 2 ^ b = ((a * 2 ^ b : Nat) : Int) := by norm_cast
  have e4 : (Op.shift .shl k (a : Int) k' (b : Int)).run P w = .ok (.int k (k.wrap ((a * 2 ^ b : Nat) : Int))) w := by
   unfold Op.shift
   rw [if_neg e1]
   simp only [Int.toNat_natCast,e2,e3,Sem.run_pure]
  simp [execOp,s.eval hx,s.eval hy,eqGuard,binOp,e4])
theorem Y.and {x y : Operand} {t t' : TypeId} {k : IntKind} {a b : Int} (hx : ev f x = some (.int k a)) (hy : ev f y = some (.int k b)) : YieldS P n ops ⟨some d,.binOp .and t x y t',ty,pos,af,none⟩ f A ((.int k (k.wrap ((BitVec.ofInt k.bits a) &&& (BitVec.ofInt k.bits b)).toNat))) :=  Y.of (fun _ w s => by simp [execOp,s.eval hx,s.eval hy,eqGuard,binOp,Op.intBits])
theorem Y.idx {x y : Operand} {t : TypeId} {k : IntKind} {s0 : ByteArray} {i : Nat} {b : UInt8} [h : StrTy P t] (hx : ev f x = some (.string s0)) (hy : ev f y = some (.int k (i : Int))) (hb : s0[i]? = some b) : YieldS P n ops ⟨some d,.index t x y,ty,pos,af,none⟩ f A (.int .u8 b.toNat) :=
 Y.of (fun _ w s => by simp [execOp,s.eval hx,s.eval hy,Instr.index,asIntOf,h.und,hb])
end
theorem opsS_mono {P : Program} {n : Nat} {ops rest : List Oper} {Q Q' : Post} {f : Env} {L : List HP} (h : opsS P n ops rest Q f L) (hq : ∀ e f L,Q e f L → Q' e f L) : opsS P n ops rest Q' f L :=
 fun ok F a w s t => wpList_mono (h ok F a w s t) fun _ _ _ ⟨f,L,s,t,q⟩ => ⟨f,L,s,t,hq _ _ _ q⟩
theorem opsS_cutT {P : Program} {n : Nat} {ops rest : List Oper} {y : Code} {Q : Post} {f : Env} {L : List HP} {σ : Type} (sl : σ → List (Nat × Value)) (H : σ → List HP) (φ : σ → Prop)
  (h : opsS P n ops rest (thenS (fun f L => ∃ s,slots f (sl s) ∧ Ent L (H s) ∧ φ s) Q) f L)
  (hk : ∀ s,φ s → swp P n y Q (updAll (sl s)) (H s)) : opsS P n ops rest (thenS (fun f L => swp P n y Q f L) Q) f L := by
 refine opsS_mono h ?_
 intro e f L q
 cases e <;> first | exact q | (obtain ⟨s,h1,h2,h3⟩ := q;exact swp_keep _ h1 (swp_ent h2 (hk s h3)))
theorem xor64 (a b : UInt64) : IntKind.u64.wrap (((BitVec.ofInt IntKind.u64.bits (a.toNat : Int)) ^^^ (BitVec.ofInt IntKind.u64.bits (b.toNat : Int))).toNat : Int) = ((a ^^^ b).toNat : Int) := by
 have e : ∀ x : UInt64,BitVec.ofInt 64 (x.toNat : Int) = x.toBitVec := fun x => by
  apply BitVec.eq_of_toNat_eq
  have := x.toNat_lt
  simp
 have h := (a ^^^ b).toNat_lt
 show IntKind.u64.wrap (((BitVec.ofInt 64 (a.toNat : Int)) ^^^ (BitVec.ofInt 64 (b.toNat : Int))).toNat : Int) = _
 rw [e,e,show (a.toBitVec ^^^ b.toBitVec).toNat = (a ^^^ b).toNat from rfl]
 exact wrap_u64 (by omega) (by omega)
theorem shl64 (a : UInt64) (k : Nat) (hk : k < 64) : IntKind.u64.wrap ((a.toNat * 2 ^ k : Nat) : Int) = ((a <<< (UInt64.ofNat k)).toNat : Int) := by
 rw [IntKind.wrap_u64]
 simp [UInt64.toNat_shiftLeft,Nat.mod_eq_of_lt hk,Nat.shiftLeft_eq]
theorem shr64 (a : UInt64) (k : Nat) (hk : k < 64) : ((a.toNat / 2 ^ k : Nat) : Int) = ((a >>> (UInt64.ofNat k)).toNat : Int) := by
 have e1 : (UInt64.ofNat k).toNat % 64 = k := by simp;omega
 rw [UInt64.toNat_shiftRight,e1,Nat.shiftRight_eq_div_pow]
theorem and64 (a b : Nat) (ha : a < 18446744073709551616) (hb : b < 18446744073709551616) : IntKind.u64.wrap (((BitVec.ofInt IntKind.u64.bits (a : Int)) &&& (BitVec.ofInt IntKind.u64.bits (b : Int))).toNat : Int) = ((a &&& b : Nat) : Int) := by
 have e : ∀ x : Nat,x < 18446744073709551616 → (BitVec.ofInt 64 (x : Int)).toNat = x := fun x hx => by simp;omega
 show IntKind.u64.wrap (((BitVec.ofInt 64 (a : Int)) &&& (BitVec.ofInt 64 (b : Int))).toNat : Int) = _
 rw [BitVec.toNat_and,e _ ha,e _ hb]
 have : a &&& b ≤ a := Nat.and_le_left
 exact wrap_u64 (by omega) (by omega)
theorem bitsLen_shift {x k : Nat} (h : 2 ^ k ≤ x) : Sort.bitsLen x = k + Sort.bitsLen (x / 2 ^ k) := by
 unfold Sort.bitsLen
 have hp : 0 < 2 ^ k := Nat.two_pow_pos k
 have h1 : ¬ x = 0 := by omega
 have h2 : ¬ x / 2 ^ k = 0 := by
  have := Nat.div_pos h hp;omega
 rw [if_neg h1,if_neg h2]
 have hlog : Nat.log2 (x / 2 ^ k) = Nat.log2 x - k := by
  have hge : k ≤ Nat.log2 x := (Nat.le_log2 h1).2 h
  refine (Nat.log2_eq_iff h2).2 ⟨?_,?_⟩
  ·rw [Nat.le_div_iff_mul_le hp,← Nat.pow_add,Nat.sub_add_cancel hge]
   exact Nat.log2_self_le h1
  ·rw [Nat.div_lt_iff_lt_mul hp,← Nat.pow_add,show Nat.log2 x - k + 1 + k = Nat.log2 x + 1 by omega]
   exact Nat.lt_log2_self
 have hge : k ≤ Nat.log2 x := (Nat.le_log2 h1).2 h
 omega
end Go.SX
namespace Go.Proofs.YtiampehfpgcogaaGreatDoor
open Go Go.SX
attribute [local irreducible] swp opsS thenS blockS retS CallsS St Ent YieldS anyS drawS
abbrev VL := List (Int × List Int)
def okR (M : Nat → Option Obj) (ovs : List OV) : Prop := ∀ o ∈ ovs,SlM M o.a o.vec.length 1 (o.vec.map I32)
def lastS (vs : VL) : Int := ((vs.getLast?).map (·.1)).getD 0
def aftN (vs : VL) (st : Int) : Nat := (vs.filter fun v => decide (v.1 ≤ st)).length
def sortedV (vs : VL) : Prop := (vs.map (·.1)).Pairwise (· < ·)
section
variable {n : Nat} {ops rest : List Oper} {cd : Code} {Q : Post} {f : Env} {L L0 : List HP} {M : Nat → Option Obj} {vs : VL}
end
structure IV where
 txn : Int
 after : Int
 a : Option Addr
 c : Nat
 ops : List OV
abbrev IV.cells (i : IV) : List Value := [.int .u64 i.txn,.int .u64 i.after,.slice i.a i.ops.length i.c]
abbrev IV.val (i : IV) : Value := .agg #[.int .u64 i.txn,.int .u64 i.after,.slice i.a i.ops.length i.c]
abbrev IV.abs (i : IV) : Int × Int × VL := (i.txn,i.after,i.ops.map OV.abs)
def RdO (A : List HP) (a : Option Addr) (ops : List OV) : Prop := RdS A a ops.length 2 (ops.flatMap OV.cells) ∧ ∀ o ∈ ops,RdS A o.a o.vec.length 1 (o.vec.map I32)
theorem RdO.sub {A L : List HP} {a : Option Addr} {ops : List OV} (h : RdO A a ops) [s : Sub A L] : RdO L a ops := ⟨h.1.sub,fun o ho => (h.2 o ho).sub⟩
def okI (M : Nat → Option Obj) (i : IV) : Prop := SlM M i.a i.ops.length 2 (i.ops.flatMap OV.cells) ∧ okR M i.ops
theorem okI.rd {M : Nat → Option Obj} {i : IV} (h : okI M i) {L : List HP} [HasM M L] : RdO L i.a i.ops := ⟨h.1.rd,fun o ho => (h.2 o ho).rd⟩
theorem okI.mono {M M' : Nat → Option Obj} {i : IV} (h : okI M i) (hl : leM M M') : okI M' i := ⟨h.1.mono hl,fun o ho => (h.2 o ho).mono hl⟩
def holdsV (ops : VL) (id : Int) : Bool := ops.any fun o => decide (o.1 = id)
def badO (dim : Int) (o : Int × List Int) : Bool := decide (1099511627776 < o.1) || (decide (0 < o.2.length) && (!rightV o.2 || decide ((o.2.length : Int) ≠ dim)))
def checkV (dim : Int) (ops : VL) : Int :=
 if dim < 1 ∨ 8 < dim then 1 else if ops.length = 0 then 2 else if 16 < ops.length then 3 else if ops.any (badO dim) then 4 else if (ops.map (·.1)).Nodup then 0 else 7
theorem lkL_put {κ α : Type} [DecidableEq κ] {m : List (κ × α)} (h : keysOK m) (x y : κ) (a : α) : lkL (putL m x a) y = if y = x then some a else lkL m y := by
 rcases keyCase m h x with ⟨p,b,q,rfl,hp,hq⟩ | hn
 ·rw [putL_mid hp hq]
  by_cases hxy : y = x
  ·subst hxy;rw [if_pos rfl,lkL_mid hp]
  ·rw [if_neg hxy]
   unfold lkL
   simp [List.find?_append,List.find?_cons,Ne.symm hxy]
 ·rw [putL_none hn]
  by_cases hxy : y = x
  ·subst hxy
   rw [if_pos rfl]
   have : m.find? (fun u => decide (u.1 = y)) = none := by simp;exact fun a b hh => hn (a,b) hh
   simp [lkL,List.find?_append,this]
  ·rw [if_neg hxy]
   unfold lkL
   simp [List.find?_append,List.find?_cons,Ne.symm hxy]
set_option maxHeartbeats 2000000 in
theorem Check_spec (dim : Int) (a : Option Addr) (c : Nat) (ops : List OV) (A : List HP) (h : RdO A a ops) (hn : ops.length ≤ 1000000) (hv : ∀ o ∈ ops,o.vec.length ≤ 1000000) (hd : -9223372036854775808 ≤ dim ∧ dim ≤ 9223372036854775807) :
  CallsS Tryz.prog 97 [.int .i64 dim,.slice a ops.length c] A (fun v L' => v = .int .i64 (checkV dim (ops.map OV.abs)) ∧ L' = A) := by
 unfold checkV
 rw [List.length_map]
 refine CallsS.of_body Tryz.func97 rfl rfl rfl ?_
 by_cases h1 : dim < 1 ∨ 8 < dim
 ·rw [if_pos h1]
  by_cases h1a : dim < 1
  ·refine Q.r ?_;(repeat (intro b1;refine Q.r ?_))
   exact N.r1 (RV.tmp rfl RV.nil) (Ent.refl _) ⟨rfl,rfl⟩
  ·refine Q.r ?_;(repeat (intro b1;refine Q.r ?_))
   exact N.r1 (RV.tmp rfl RV.nil) (Ent.refl _) ⟨rfl,rfl⟩
 rw [if_neg h1]
 by_cases h2 : ops.length = 0
 ·rw [if_pos h2]
  refine Q.r ?_;(repeat (intro b1;refine Q.r ?_))
  exact N.r1 (RV.tmp rfl RV.nil) (Ent.refl _) ⟨rfl,rfl⟩
 rw [if_neg h2]
 by_cases h3 : 16 < ops.length
 ·rw [if_pos h3]
  refine Q.r ?_;(repeat (intro b1;refine Q.r ?_))
  exact N.r1 (RV.tmp rfl RV.nil) (Ent.refl _) ⟨rfl,rfl⟩
 rw [if_neg h3]
 refine Q.r ?_;(repeat (intro b1;refine Q.r ?_))
 refine S.mkm U64 Value.bool (fun b => ?_)
 refine Q.r ?_;(repeat (intro b1;refine Q.r ?_))
 refine swp_loop (σ := Nat × Bool × List (Int × Bool)) (fun s => [(0,.int .i64 dim),(5,.map (some b)),(25,.slice a ops.length c),(26,.int .i64 ops.length),(6,.bool s.2.1),(27,.int .i64 s.1)])
  (fun s => mpO U64 Value.bool b s.2.2 :: A) (fun s => s.1 ≤ ops.length ∧ keysOK s.2.2 ∧ (∀ y,lkL s.2.2 y = if y ∈ (ops.take s.1).map (·.id) then some true else none) ∧ s.2.1 = !decide (((ops.take s.1).map (·.id)).Nodup) ∧ (ops.take s.1).any (fun o => badO dim o.abs) = false)
  (fun s => ops.length - s.1) (0,false,[]) ⟨rfl,rfl,rfl,rfl,rfl,rfl,trivial⟩ (Ent.refl _) ⟨by omega,by simp [keysOK],by intro y;simp [lkL],by simp,by simp⟩ ?_
 rintro ⟨k,tw,m⟩ ⟨k1,k2,k3,k4,k5⟩
 dsimp only at k1 k2 k3 k4 k5 ⊢
 by_cases hlt : k < ops.length
 ·obtain ⟨o,ho⟩ := mem_get hlt
  have hmo : o ∈ ops := List.mem_of_getElem? ho
  have hlen := hv o hmo
  obtain ⟨b2,o2,rfl,hr⟩ := RdS.elem (g := OV.cells) (fun _ => rfl) h.1 ho rfl
  have hbad : badO dim o.abs = true → (ops.map OV.abs).any (badO dim) = true := fun hb => List.any_eq_true.2 ⟨o.abs,List.mem_map_of_mem hmo,hb⟩
  have hall : (ops.map OV.abs).any (badO dim) = true ↔ (ops.any fun o => badO dim o.abs) = true := by rw [List.any_map];rfl
  repeat (first | (refine GQ.y ?_;refine Q.y ?_) | refine Q.go ?_ | (refine GQ.g ?_;refine Q.gq ?_) | (refine GQ.s ?_;refine Q.st ?_) | (refine GQ.a ?_;refine Q.al (fun b1 => ?_)))
  refine Q.ct rfl ?_
  repeat (first | (refine GQ.y ?_;refine Q.y ?_) | refine Q.go ?_ | (refine GQ.g ?_;refine Q.gq ?_) | (refine GQ.s ?_;refine Q.st ?_) | (refine GQ.a ?_;refine Q.al (fun b1 => ?_)))
  refine opsS_cutT (σ := Bool) (fun s => [(0,.int .i64 dim),(5,.map (some b)),(25,.slice (some ⟨b2,o2,none⟩) ops.length c),(26,.int .i64 ops.length),(6,.bool tw),(27,.int .i64 k),(8,.pointer (some ⟨b1,0,none⟩)),(52,.bool s)])
   (fun s => pt b1 (cl o.cells 77) :: mpO U64 Value.bool b m :: A) (fun s => s = badO dim o.abs) ?_ ?_
  ·by_cases c1 : 1099511627776 < o.id
   ·refine Q.r ?_;(repeat (intro b1;refine Q.r ?_))
    exact ⟨true,⟨rfl,rfl,rfl,rfl,rfl,rfl,rfl,rfl,trivial⟩,Ent.refl _,by simp [badO,c1]⟩
   by_cases c2 : 0 < o.vec.length
   ·refine Q.r ?_;(repeat (intro b1;refine Q.r ?_))
    refine S.cr rfl (Right_spec o.a o.c o.vec _ ((h.2 o hmo).sub) (by omega)) ?_
    rintro _ _ ⟨rfl,rfl⟩
    cases hrt : rightV o.vec with
    | false =>
     refine Q.r ?_;(repeat (intro b1;refine Q.r ?_))
     exact ⟨true,⟨rfl,rfl,rfl,rfl,rfl,rfl,rfl,rfl,trivial⟩,Ent.refl _,by simp [badO,c1,c2,hrt]⟩
    | true =>
     refine Q.r ?_;(repeat (intro b1;refine Q.r ?_))
     exact ⟨_,⟨rfl,rfl,rfl,rfl,rfl,rfl,rfl,rfl,trivial⟩,Ent.refl _,by simp [badO,c1,c2,hrt]⟩
   ·refine Q.r ?_;(repeat (intro b1;refine Q.r ?_))
    exact ⟨false,⟨rfl,rfl,rfl,rfl,rfl,rfl,rfl,rfl,trivial⟩,Ent.refl _,by simp [badO,c1,c2]⟩
  intro s hs
  cases s with
  | true =>
   rw [if_pos (hbad hs.symm)]
   refine Q.r ?_;(repeat (intro b1;refine Q.r ?_))
   exact N.r1 (RV.tmp rfl RV.nil) (Ent.drop (Ent.drop (Ent.refl _))) ⟨rfl,rfl⟩
  | false =>
   have hex : swp Tryz.prog Tryz.f97.ntmps Code.skip (fun _ _ _ => True) e0 [] := swp_skip trivial
   clear hex hbad hall
   have htk : (ops.take (k + 1)).map (·.id) = (ops.take k).map (·.id) ++ [o.id] := by rw [take_snoc ho,List.map_append];rfl
   have hnd : ((ops.take (k + 1)).map (·.id)).Nodup ↔ ((ops.take k).map (·.id)).Nodup ∧ o.id ∉ (ops.take k).map (·.id) := by
    rw [htk,List.nodup_append]
    constructor
    ·rintro ⟨a1,_,a2⟩
     exact ⟨a1,fun hm => a2 _ hm _ (by simp) rfl⟩
    ·rintro ⟨a1,a2⟩
     exact ⟨a1,by simp,fun x hx y hy e => by simp at hy;subst hy;exact a2 (e ▸ hx)⟩
   have hm' : ∀ y,lkL (putL m o.id true) y = if y ∈ (ops.take (k + 1)).map (·.id) then some true else none := fun y => by
    rw [lkL_put k2,htk,k3]
    by_cases hy : y = o.id
    ·subst hy;simp
    ·simp [hy]
   have hb5 : (ops.take (k + 1)).any (fun o => badO dim o.abs) = false := by
    rw [take_snoc ho,List.any_append,k5,List.any_cons,← hs];rfl
   cases tw with
   | true =>
    have hd0 : ¬ ((ops.take k).map (·.id)).Nodup := fun hh => by rw [decide_eq_true hh] at k4;cases k4
    repeat (first | (refine GQ.y ?_;refine Q.y ?_) | refine Q.go ?_ | (refine GQ.g ?_;refine Q.gq ?_) | (refine GQ.s ?_;refine Q.st ?_) | (refine GQ.a ?_;refine Q.al (fun b1 => ?_)))
    refine S.mu rfl rfl rfl ?_
    repeat (first | (refine GQ.y ?_;refine Q.y ?_) | refine Q.go ?_ | (refine GQ.g ?_;refine Q.gq ?_) | (refine GQ.s ?_;refine Q.st ?_) | (refine GQ.a ?_;refine Q.al (fun b1 => ?_)))
    exact ⟨(k + 1,true,putL m o.id true),⟨rfl,rfl,rfl,rfl,rfl,rfl,trivial⟩,Ent.drop (Ent.refl _),⟨by dsimp only;omega,putL_ok k2 _ _,hm',by rw [decide_eq_false (fun hh => hd0 (hnd.1 hh).1)];rfl,hb5⟩,by dsimp only;omega⟩
   | false =>
    have hd0 : ((ops.take k).map (·.id)).Nodup := by
     by_cases hh : ((ops.take k).map (·.id)).Nodup
     ·exact hh
     ·rw [decide_eq_false hh] at k4;cases k4
    repeat (first | (refine GQ.y ?_;refine Q.y ?_) | refine Q.go ?_ | (refine GQ.g ?_;refine Q.gq ?_) | (refine GQ.s ?_;refine Q.st ?_) | (refine GQ.a ?_;refine Q.al (fun b1 => ?_)))
    refine S.y (Y.lk false rfl rfl (fun w => Tryz.zeroValue4 w)) ?_
    rw [k3]
    by_cases hin : o.id ∈ (ops.take k).map (·.id)
    ·rw [if_pos hin]
     repeat (first | (refine GQ.y ?_;refine Q.y ?_) | refine Q.go ?_ | (refine GQ.g ?_;refine Q.gq ?_) | (refine GQ.s ?_;refine Q.st ?_) | (refine GQ.a ?_;refine Q.al (fun b1 => ?_)))
     refine S.mu rfl rfl rfl ?_
     repeat (first | (refine GQ.y ?_;refine Q.y ?_) | refine Q.go ?_ | (refine GQ.g ?_;refine Q.gq ?_) | (refine GQ.s ?_;refine Q.st ?_) | (refine GQ.a ?_;refine Q.al (fun b1 => ?_)))
     exact ⟨(k + 1,true,putL m o.id true),⟨rfl,rfl,rfl,rfl,rfl,rfl,trivial⟩,Ent.drop (Ent.refl _),⟨by dsimp only;omega,putL_ok k2 _ _,hm',by rw [decide_eq_false (fun hh => (hnd.1 hh).2 hin)];rfl,hb5⟩,by dsimp only;omega⟩
    ·rw [if_neg hin]
     repeat (first | (refine GQ.y ?_;refine Q.y ?_) | refine Q.go ?_ | (refine GQ.g ?_;refine Q.gq ?_) | (refine GQ.s ?_;refine Q.st ?_) | (refine GQ.a ?_;refine Q.al (fun b1 => ?_)))
     refine S.mu rfl rfl rfl ?_
     repeat (first | (refine GQ.y ?_;refine Q.y ?_) | refine Q.go ?_ | (refine GQ.g ?_;refine Q.gq ?_) | (refine GQ.s ?_;refine Q.st ?_) | (refine GQ.a ?_;refine Q.al (fun b1 => ?_)))
     exact ⟨(k + 1,false,putL m o.id true),⟨rfl,rfl,rfl,rfl,rfl,rfl,trivial⟩,Ent.drop (Ent.refl _),⟨by dsimp only;omega,putL_ok k2 _ _,hm',by rw [decide_eq_true (hnd.2 ⟨hd0,hin⟩)];rfl,hb5⟩,by dsimp only;omega⟩
 ·have hke : k = ops.length := by omega
  subst hke
  rw [List.take_length] at k4 k5
  rw [if_neg (by rw [List.any_map];show ¬ (ops.any fun o => badO dim o.abs) = true;rw [k5];exact Bool.false_ne_true)]
  have hmm : (ops.map OV.abs).map (·.1) = ops.map (·.id) := by rw [List.map_map];rfl
  rw [hmm]
  by_cases hnd : (ops.map (·.id)).Nodup
  ·rw [if_pos hnd]
   simp only [hnd,decide_true,Bool.not_true] at k4
   subst k4
   refine Q.r ?_;(repeat (intro b1;refine Q.r ?_))
   exact N.r1 (RV.tmp rfl RV.nil) (Ent.drop (Ent.refl _)) ⟨rfl,rfl⟩
  ·rw [if_neg hnd]
   simp only [hnd,decide_false,Bool.not_false] at k4
   subst k4
   refine Q.r ?_;(repeat (intro b1;refine Q.r ?_))
   exact N.r1 (RV.tmp rfl RV.nil) (Ent.drop (Ent.refl _)) ⟨rfl,rfl⟩
end Go.Proofs.YtiampehfpgcogaaGreatDoor
namespace Go.SX
open Go
section
variable {P : Program} {n : Nat} {ops rest : List Oper} {Q : Post} {f : Env} {A L : List HP} {d : Tmp} {ty : TypeId} {pos : String} {af : Array Edge}
theorem Y.or {x y : Operand} {t t' : TypeId} {k : IntKind} {a b : Int} (hx : ev f x = some (.int k a)) (hy : ev f y = some (.int k b)) : YieldS P n ops ⟨some d,.binOp .or t x y t',ty,pos,af,none⟩ f A ((.int k (k.wrap ((BitVec.ofInt k.bits a) ||| (BitVec.ofInt k.bits b)).toNat))) := Y.of (fun _ w s => by simp [execOp,s.eval hx,s.eval hy,eqGuard,binOp,Op.intBits])
theorem Y.shrI {x y : Operand} {t t' : TypeId} {k k' : IntKind} {a : Int} {b : Nat} (hx : ev f x = some (.int k a)) (hy : ev f y = some (.int k' (b : Int))) (hb : b ≤ k.bits) : YieldS P n ops ⟨some d,.binOp .shr t x y t',ty,pos,af,none⟩ f A (.int k (a.fdiv (2 ^ b))) :=
 Y.of (fun _ w s => by
  have e1 : ¬ ((b : Int) < 0) := by omega
  have e2 : Min.min b k.bits = b := Nat.min_eq_left hb
  simp [execOp,s.eval hx,s.eval hy,eqGuard,binOp,Op.shift,e1,e2])
theorem Y.shlI {x y : Operand} {t t' : TypeId} {k k' : IntKind} {a : Int} {b : Nat} (hx : ev f x = some (.int k a)) (hy : ev f y = some (.int k' (b : Int))) (hb : b ≤ k.bits) : YieldS P n ops ⟨some d,.binOp .shl t x y t',ty,pos,af,none⟩ f A (.int k (k.wrap (a * 2 ^ b))) :=
 Y.of (fun _ w s => by
  have e1 : ¬ ((b : Int) < 0) := by omega
  have e2 : Min.min b k.bits = b := Nat.min_eq_left hb
  have e4 : (Op.shift .shl k a k' (b : Int)).run P w = .ok (.int k (k.wrap (a * 2 ^ b))) w := by
   unfold Op.shift
   rw [if_neg e1]
   simp only [Int.toNat_natCast,e2,Sem.run_pure]
  simp [execOp,s.eval hx,s.eval hy,eqGuard,binOp,e4])
end
end Go.SX
namespace Go.Proofs.YtiampehfpgcogaaGreatDoor
open Go Go.SX
attribute [local irreducible] swp opsS thenS blockS retS CallsS St Ent YieldS anyS drawS
def numB (n : Nat) : List UInt8 := if h : n < 128 then [UInt8.ofNat n] else UInt8.ofNat (n % 128 + 128) :: numB (n / 128)
termination_by n
theorem numB_lo {n : Nat} (h : n < 128) : numB n = [UInt8.ofNat n] := by rw [numB,dif_pos h]
theorem numB_hi {n : Nat} (h : ¬ n < 128) : numB n = UInt8.ofNat (n % 128 + 128) :: numB (n / 128) := by rw [numB,dif_neg h]
def numI (z : Int) : List UInt8 := if z < 0 then [UInt8.ofNat (z % 256).toNat] else numB z.toNat
abbrev wP (w : Nat) (a : Option Addr) (n c : Nat) : HP := pt w (cl [.slice a n c] 125)
def wH (w : Nat) (bs : List UInt8) : HP := exH fun x : Option Addr × Nat => allH [wP w x.1 bs.length x.2,slO 5 1 x.1 bs.length x.2 (bs.map B)]
theorem wH_shut {w : Nat} {a : Option Addr} {c : Nat} {bs : List UInt8} {L : List HP} : Ent (wP w a bs.length c :: slO 5 1 a bs.length c (bs.map B) :: L) (wH w bs :: L) :=
 Ent.trans (Ent.shut_all (L := [_,_])) (Ent.shut_ex (P := fun x : Option Addr × Nat => allH [wP w x.1 bs.length x.2,slO 5 1 x.1 bs.length x.2 (bs.map B)]) (a,c))
theorem calls_w {g : FuncId} {args : List Value} {R : Value → List HP → Prop} {w : Nat} {bs : List UInt8} {L : List HP} (h : ∀ a c,CallsS Tryz.prog g args (wP w a bs.length c :: slO 5 1 a bs.length c (bs.map B) :: L) R) : CallsS Tryz.prog g args (wH w bs :: L) R :=
 CallsS.ex fun x => CallsS.all (h x.1 x.2)
theorem u8w (z : Int) : IntKind.u8.wrap z = z % 256 := by simp [IntKind.wrap,IntKind.bits,IntKind.signed]
set_option maxRecDepth 100000 in
theorem u8or (m : Nat) : IntKind.u8.wrap (((BitVec.ofInt IntKind.u8.bits (IntKind.u8.wrap (m : Int))) ||| (BitVec.ofInt IntKind.u8.bits 128)).toNat : Int) = ((UInt8.ofNat (m % 128 + 128)).toNat : Int) := by
 have e1 : IntKind.u8.wrap (m : Int) = ((m % 256 : Nat) : Int) := by
  rw [u8w];norm_cast
 have e2 : m % 128 = m % 256 % 128 := by omega
 rw [e1,e2]
 have hlt : m % 256 < 256 := Nat.mod_lt _ (by decide)
 generalize m % 256 = x at hlt
 show IntKind.u8.wrap (((BitVec.ofInt 8 (x : Int)) ||| (BitVec.ofInt 8 128)).toNat : Int) = _
 rw [BitVec.toNat_or,show (BitVec.ofInt 8 (x : Int)).toNat = x by simp;omega,show (BitVec.ofInt 8 128).toNat = 128 by decide]
 have e3 : x ||| 128 = x % 128 + 128 := (by decide : ∀ x,x < 256 → x ||| 128 = x % 128 + 128) x hlt
 rw [e3,wrap_u8 (by omega) (by omega),UInt8.toNat_ofNat']
 omega
theorem u8lo (z : Int) : IntKind.u8.wrap z = ((UInt8.ofNat (z % 256).toNat).toNat : Int) := by
 rw [u8w,UInt8.toNat_ofNat']
 omega
theorem numI_lo {z : Int} (h : z < 128) : numI z = [UInt8.ofNat (z % 256).toNat] := by
 unfold numI
 split
 ·rfl
 ·rw [numB_lo (by omega)]
  have : (z % 256).toNat = z.toNat := by omega
  rw [this]
theorem numI_hi {m : Nat} (h : 128 ≤ m) : numI (m : Int) = UInt8.ofNat (m % 128 + 128) :: numI ((m / 2 ^ 7 : Nat) : Int) := by
 unfold numI
 rw [if_neg (by omega),if_neg (by omega),Int.toNat_natCast,Int.toNat_natCast,numB_hi (by omega)]
theorem numB_len : ∀ (k n : Nat),n < 128 ^ (k + 1) → (numB n).length ≤ k + 1
 | 0,n,h => by rw [numB_lo (by simpa using h)];simp
 | k + 1,n,h => by
  by_cases hl : n < 128
  ·rw [numB_lo hl];simp
  ·rw [numB_hi hl,List.length_cons]
   have h2 : n / 128 < 128 ^ (k + 1) := by
    rw [Nat.div_lt_iff_lt_mul (by decide)]
    rw [Nat.pow_succ] at h;exact h
   have := numB_len k (n / 128) h2
   omega
theorem numI_len {z : Int} (h : z ≤ 18446744073709551615) : (numI z).length ≤ 10 := by
  unfold numI
  split
  · simp
  · exact numB_len 9 _ (by have : (128 : Nat) ^ (9 + 1) = 1180591620717411303424 := by decide
                           rw [this]; omega)
theorem B_one (xs : List UInt8) : (xs.map B).all (·.oneCell') = true := by simp [B,Value.oneCell']
set_option maxHeartbeats 1000000 in
theorem wnum_spec (w : Nat) (bs : List UInt8) (z : Int) (L : List HP) (hb : bs.length ≤ 100000000000000) (hz : z ≤ 18446744073709551615) :
  CallsS Tryz.prog 104 [.pointer (some ⟨w,0,none⟩),.int .u64 z] (wH w bs :: L) (fun r L' => r = .tuple #[] ∧ L' = wH w (bs ++ numI z) :: L) := by
 refine calls_w fun a c => ?_
 have hnl := numI_len hz
 refine CallsS.of_body Tryz.func104 rfl rfl rfl ?_
 refine Q.r ?_;(repeat (intro b1;refine Q.r ?_))
 refine swp_cutB (σ := Int × List UInt8 × Option Addr × Nat) (fun s => [(0,.pointer (some ⟨w,0,none⟩)),(1,.int .u64 s.1)]) (fun s => wP w s.2.2.1 s.2.1.length s.2.2.2 :: slO 5 1 s.2.2.1 s.2.1.length s.2.2.2 (s.2.1.map B) :: L)
  (fun s => s.2.1 ++ numI s.1 = bs ++ numI z ∧ s.1 < 128 ∧ s.2.1.length ≤ 100000000000010) ?_ ?_
 ·refine swp_loop (σ := Int × List UInt8 × Option Addr × Nat) (fun s => [(0,.pointer (some ⟨w,0,none⟩)),(1,.int .u64 s.1)]) (fun s => wP w s.2.2.1 s.2.1.length s.2.2.2 :: slO 5 1 s.2.2.1 s.2.1.length s.2.2.2 (s.2.1.map B) :: L)
   (fun s => s.2.1 ++ numI s.1 = bs ++ numI z) (fun s => s.1.toNat) (z,bs,a,c) ⟨rfl,rfl,trivial⟩ (Ent.refl _) rfl ?_
  rintro ⟨y,us,a2,c2⟩ he
  dsimp only at he ⊢
  have hul : us.length ≤ 100000000000010 := by
   have := congrArg List.length he
   rw [List.length_append,List.length_append] at this
   omega
  by_cases h : 128 ≤ y
  ·obtain ⟨m,rfl⟩ : ∃ m : Nat,y = (m : Int) := ⟨y.toNat,by omega⟩
   refine Q.r ?_;(repeat (intro b1;refine Q.r ?_))
   refine S.y (Y.cvi rfl) ?_
   refine S.y (Y.or rfl rfl) ?_
   rw [u8or]
   refine Q.r ?_;(repeat (intro b1;refine Q.r ?_))
   refine S.app rfl rfl (SrcS.sl RdC.row (by rfl) (by rfl)) (by rfl) (by omega) (by omega) (fun a7 c7 => ?_)
   refine Q.r ?_;(repeat (intro b1;refine Q.r ?_))
   refine S.y (Y.shr rfl rfl (by decide)) ?_
   refine Q.r ?_;(repeat (intro b1;refine Q.r ?_))
   refine ⟨(((m / 2 ^ 7 : Nat) : Int),us ++ [UInt8.ofNat (m % 128 + 128)],a7,c7),⟨rfl,rfl,trivial⟩,?_,?_,?_⟩
   ·dsimp only
    rw [len_snoc,List.map_append]
    exact Go.SX.Ent.go
   ·dsimp only
    rw [← he,numI_hi (m := m) (by omega),List.append_assoc];rfl
   ·dsimp only
    have : m / 2 ^ 7 < m := Nat.div_lt_self (by omega) (by decide)
    omega
  ·refine Q.r ?_;(repeat (intro b1;refine Q.r ?_))
   exact ⟨(y,us,a2,c2),⟨rfl,rfl,trivial⟩,Ent.refl _,he,by dsimp only;omega,hul⟩
 ·rintro ⟨y,us,a2,c2⟩ ⟨he,hy,hul⟩
  dsimp only at he hy hul ⊢
  refine Q.r ?_;(repeat (intro b1;refine Q.r ?_))
  refine S.y (Y.cvi rfl) ?_
  rw [u8lo]
  refine Q.r ?_;(repeat (intro b1;refine Q.r ?_))
  refine S.app rfl rfl (SrcS.sl RdC.row (by rfl) (by rfl)) (by rfl) (by omega) (by omega) (fun a7 c7 => ?_)
  refine Q.r ?_;(repeat (intro b1;refine Q.r ?_))
  refine N.n0 RV.nil ?_ ⟨rfl,rfl⟩
  rw [← he,numI_lo hy]
  refine Ent.trans ?_ (wH_shut (a := a7) (c := c7))
  rw [len_snoc,List.map_append]
  exact Go.SX.Ent.go
theorem wNums_spec (w : Nat) (bs : List UInt8) (a : Option Addr) (c : Nat) (xs : List Int) (L : List HP) (h : RdS L a xs.length 1 (xs.map U64)) (hz : ∀ z ∈ xs,z ≤ 18446744073709551615) (hb : bs.length + 10 * xs.length ≤ 100000000000000) :
  CallsS Tryz.prog 61 [.pointer (some ⟨w,0,none⟩),.slice a xs.length c] (wH w bs :: L) (fun r L' => r = .pointer (some ⟨w,0,none⟩) ∧ L' = wH w (bs ++ xs.flatMap numI) :: L) := by
 refine CallsS.of_body Tryz.func61 rfl rfl rfl ?_
 refine Q.r ?_;(repeat (intro b1;refine Q.r ?_))
 refine swp_cutB (σ := Unit) (fun _ => [(0,.pointer (some ⟨w,0,none⟩))]) (fun _ => wH w (bs ++ xs.flatMap numI) :: L) (fun _ => True) ?_ ?_
 ·refine swp_loop (σ := Nat) (fun k => [(0,.pointer (some ⟨w,0,none⟩)),(9,.slice a xs.length c),(10,.int .i64 xs.length),(11,.int .i64 k)]) (fun k => wH w (bs ++ (xs.take k).flatMap numI) :: L)
   (fun k => k ≤ xs.length) (fun k => xs.length - k) 0 ⟨rfl,rfl,rfl,rfl,trivial⟩ (by simp only [List.take_zero,List.flatMap_nil,List.append_nil];exact Ent.refl _) (by omega) ?_
  intro k hk
  have hll : ∀ k,k ≤ xs.length → ((xs.take k).flatMap numI).length ≤ 10 * k := fun k => by
   induction k with
   | zero => intro _;simp
   | succ k ih =>
    intro hk
    obtain ⟨z,hz1⟩ := mem_get (l := xs) (k := k) (by omega)
    rw [take_snoc hz1,List.flatMap_append,List.length_append]
    have := ih (by omega)
    have := numI_len (hz z (List.mem_of_getElem? hz1))
    simp only [List.flatMap_cons,List.flatMap_nil,List.append_nil];omega
  by_cases hlt : k < xs.length
  ·obtain ⟨z,hz1⟩ := mem_get hlt
   have hzl := hz z (List.mem_of_getElem? hz1)
   have hrs : RdS (wH w (bs ++ (xs.take k).flatMap numI) :: L) a xs.length 1 (xs.flatMap cU) := by rw [flat_U];exact h.sub
   obtain ⟨b,o,hia,hr⟩ := RdS.elem (g := cU) (fun _ => rfl) hrs hz1 rfl
   clear hrs
   rw [hia]
   have := hll k hk
   refine Q.r ?_;(repeat (intro b1;refine Q.r ?_))
   refine S.cr rfl (wnum_spec w _ z _ (by rw [List.length_append];omega) hzl) ?_
   rintro _ _ ⟨rfl,rfl⟩
   refine Q.r ?_;(repeat (intro b1;refine Q.r ?_))
   refine ⟨k + 1,⟨rfl,rfl,rfl,rfl,trivial⟩,?_,by omega,by omega⟩
   rw [take_snoc hz1,List.flatMap_append,List.append_assoc]
   simp only [List.flatMap_cons,List.flatMap_nil,List.append_nil]
   exact Ent.refl _
  ·have hke : k = xs.length := by omega
   subst hke
   rw [List.take_length]
   refine Q.r ?_;(repeat (intro b1;refine Q.r ?_))
   exact ⟨(),⟨rfl,trivial⟩,Ent.refl _,trivial⟩
 ·rintro _ _
  refine Q.r ?_;(repeat (intro b1;refine Q.r ?_))
  exact N.r1 (RV.tmp rfl RV.nil) (Ent.refl _) ⟨rfl,rfl⟩
def zzI (n : Int) : Int := IntKind.u64.wrap (IntKind.u32.wrap (((BitVec.ofInt IntKind.u32.bits (IntKind.u32.wrap (IntKind.i32.wrap (n * 2 ^ 1)))) ^^^ (BitVec.ofInt IntKind.u32.bits (IntKind.u32.wrap (n.fdiv (2 ^ 31))))).toNat : Int))
def vecI (v : List Int) : List UInt8 := numI (v.length : Int) ++ v.flatMap fun n => numI (zzI n)
theorem CloneB_spec (a : Option Addr) (c : Nat) (bs : List UInt8) (A : List HP) (h : RdS A a bs.length 1 (bs.map B)) (hn : bs.length ≤ 140737488355328) :
  CallsS Tryz.prog 108 [.slice a bs.length c] A (fun v L' => ∃ a' c',v = .slice a' bs.length c' ∧ L' = slO 5 1 a' bs.length c' (bs.map B) :: A) := by
 refine CallsS.of_body Tryz.func108 rfl rfl rfl ?_
 cases a with
 | none =>
  have hx : bs = [] := by
   rcases h.2 with h0 | ⟨_,_,h0,_⟩
   ·exact List.eq_nil_of_length_eq_zero h0
   ·cases h0
  subst hx
  refine Q.r ?_;(repeat (intro b1;refine Q.r ?_))
  exact N.r1 (RV.tmp rfl RV.nil) slO_nil ⟨none,0,rfl,rfl⟩
 | some ad =>
  refine Q.r ?_;(repeat (intro b1;refine Q.r ?_))
  refine opsS_ent (slO_fold (sz := 1) (m := 0) rfl) ?_
  refine S.app0 rfl rfl rfl (SrcS.rd h.sub (B_one _)) (by rfl) (by omega) (by omega) (fun a5 c5 => ?_)
  refine Q.r ?_;(repeat (intro b1;refine Q.r ?_))
  exact N.r1 (RV.tmp rfl RV.nil) (Ent.refl _) ⟨a5,c5,rfl,rfl⟩
theorem wBytes_spec (w : Nat) (bs : List UInt8) (L : List HP) (hb : bs.length ≤ 140737488355328) :
  CallsS Tryz.prog 64 [.pointer (some ⟨w,0,none⟩)] (wH w bs :: L) (fun r L' => ∃ a c,r = .slice a bs.length c ∧ L' = slO 5 1 a bs.length c (bs.map B) :: wH w bs :: L) := by
 refine calls_w fun a c => ?_
 refine CallsS.of_body Tryz.func64 rfl rfl rfl ?_
 refine Q.r ?_;(repeat (intro b1;refine Q.r ?_))
 refine opsS_addr a (fun ha => ?_)
 refine S.cr rfl (CloneB_spec a c bs _ (RdS.slO (t := 5) (c := c) (L1 := wP w a bs.length c :: L) (Ent.perm (.swap _ _ _)) (by simp) ha) hb) ?_
 rintro _ _ ⟨a',c',rfl,rfl⟩
 refine Q.r ?_;(repeat (intro b1;refine Q.r ?_))
 refine N.r1 (RV.tmp rfl RV.nil) (Ent.cons wH_shut) ⟨a',c',rfl,rfl⟩
end Go.Proofs.YtiampehfpgcogaaGreatDoor
namespace Go.Proofs.YtiampehfpgcogaaGreatDoor
open Go Go.SX
attribute [local irreducible] swp opsS thenS blockS retS CallsS St Ent YieldS anyS drawS
structure VS where
 dim : Int
 ch : List (Int × VL)
 its : List (Int × Int × VL)
 mark : Int
abbrev CR := Int × Nat × VL
structure VOK (M : Nat → Option Obj) (st : VS) (cs : List CR) (is : List IV) : Prop where
 ch : cs.map (fun c => (c.1,c.2.2)) = st.ch
 its : is.map IV.abs = st.its
 ok : ∀ i ∈ is,okI M i
 k1 : keysOK st.ch
 k2 : keysOK st.its
section
variable {n : Nat} {ops rest : List Oper} {cd : Code} {Q : Post} {f : Env} {L L0 : List HP} {st : VS}
end
def opsLe (st : VS) : Prop := ∀ i ∈ st.its,i.2.2.length ≤ 1000000
theorem VOK.ops {M : Nat → Option Obj} {st : VS} {cs : List CR} {is : List IV} (h : VOK M st cs is) (hl : opsLe st) : ∀ i ∈ is,i.ops.length ≤ 1000000 := fun i hi => by
 have := hl i.abs (by rw [← h.its];exact List.mem_map_of_mem hi)
 simpa using this
def vecsH (us : List OV) : HP := bodV 21 (us.map fun o => (o.a,o.c,o.vec.map I32))
theorem vecs_snoc {us : List OV} {o : OV} {m : Nat} {L : List HP} (hm : m = o.vec.length) : Ent (slO 21 1 o.a m o.c (o.vec.map I32) :: vecsH us :: L) (vecsH (us ++ [o]) :: L) := by
 unfold vecsH
 rw [List.map_append,List.map_cons,List.map_nil]
 exact bodV_snoc (by simp [hm])
theorem vecs_abs {L L0 : List HP} {M : Nat → Option Obj} [hp : PickM L M L0] : ∀ us : List OV,Ent (vecsH us :: L) (exH (fun M' => allH [pureH (leM M M' ∧ okR M' us),roM M']) :: L0) := by
 intro us
 induction us generalizing M L with
 | nil =>
  refine Ent.drop (hp.ent.trans ?_)
  refine Ent.trans ?_ (Ent.shut_ex M)
  refine Ent.trans ?_ Ent.shut_all
  exact Ent.shut_pure ⟨leM.refl M,fun o ho => by cases ho⟩
 | cons o us ih =>
  have h1 : Ent (vecsH (o :: us) :: L) (slO 21 1 o.a o.vec.length o.c (o.vec.map I32) :: vecsH us :: L) := by
   unfold vecsH
   exact bodV_out' (p := []) (by simp)
  refine h1.trans ?_
  have hp2 : PickM (vecsH us :: L) M (vecsH us :: L0) := inferInstance
  refine (Ent.absorb (h := hp2)).trans ?_
  refine Ent.ex fun M1 => Ent.open_all.trans (Ent.pure fun hs => ?_)
  refine Ent.trans (Ent.perm (.swap _ _ _)) ?_
  refine (ih (M := M1) (L := roM M1 :: L0) (hp := inferInstance)).trans ?_
  refine Ent.ex fun M2 => Ent.open_all.trans (Ent.pure fun hs2 => ?_)
  refine Ent.trans ?_ (Ent.shut_ex M2)
  refine Ent.trans ?_ Ent.shut_all
  refine Ent.shut_pure ⟨hs.1.trans hs2.1,fun u hu => ?_⟩
  rcases List.mem_cons.1 hu with rfl | hu
  ·exact hs.2.mono hs2.1
  ·exact hs2.2 u hu
theorem swp_absV (us : List OV) {n : Nat} {cd : Code} {Q : Post} {f : Env} {L L0 L1 : List HP} {M : Nat → Option Obj} [h : Pick (vecsH us) L L0] [h1 : PickM L0 M L1] (hk : ∀ M',leM M M' → okR M' us → swp Tryz.prog n cd Q f (roM M' :: L1)) : swp Tryz.prog n cd Q f L :=
 swp_ent (h.ent.trans (vecs_abs us)) (swp_ex fun M' => swp_all (swp_pure fun hh => hk M' hh.1 hh.2))
theorem lk_none' {κ α : Type} [DecidableEq κ] {m : List (κ × α)} {x : κ} (h : lkL m x = none) : ∀ u ∈ m,u.1 ≠ x := fun u hu e => by
 unfold lkL at h
 rw [Option.map_eq_none_iff,List.find?_eq_none] at h
 exact h u hu (by simpa using e)
def lockE (st : VS) (txn after : Int) (ops : VL) : Int :=
 if 1099511627776 < after then 1 else if checkV st.dim ops ≠ 0 then checkV st.dim ops else if (lkL st.its txn).isSome then 7 else if ops.any fun o => st.its.any fun i => holdsV i.2.2 o.1 then 11 else 0
def lockS (st : VS) (txn after : Int) (ops : VL) : VS := if lockE st txn after ops = 0 then { st with its := st.its ++ [(txn,after,ops)] } else st
def chV (ch : List (Int × VL)) (id : Int) : VL := (lkL ch id).getD []
def putC (s : Int) (ch : List (Int × VL)) (o : Int × List Int) : List (Int × VL) := putL ch o.1 (chV ch o.1 ++ [(s,o.2)])
def applyC (s : Int) (ch : List (Int × VL)) (ops : VL) : List (Int × VL) := ops.foldl (putC s) ch
def applyE (st : VS) (txn s : Int) : Int :=
 match lkL st.its txn with
 | none => if s = 0 ∨ 1099511627776 < s then 1 else 6
 | some i => if s = 0 ∨ 1099511627776 < s ∨ s ≤ i.1 then 1 else if i.2.any fun o => decide (s ≤ lastS (chV st.ch o.1)) then 7 else if s ≤ st.mark then 12 else 0
def applyS (st : VS) (txn s : Int) : VS :=
 match lkL st.its txn with
 | none => st
 | some i => if applyE st txn s = 0 then { st with ch := applyC s st.ch i.2,its := delL st.its txn } else st
structure WF (st : VS) (n : Nat) : Prop where
 d1 : 1 ≤ st.dim
 d2 : st.dim ≤ 8
 il : st.its.length ≤ n
 io : ∀ i ∈ st.its,i.2.2.length ≤ 16 ∧ (i.2.2.map (·.1)).Nodup ∧ ∀ o ∈ i.2.2,o.2.length ≤ 8 ∧ (0 < o.2.length → rightV o.2 = true)
 cl : st.ch.length ≤ 16 * n
 co : ∀ c ∈ st.ch,sortedV c.2 ∧ c.2.length ≤ n ∧ ∀ v ∈ c.2,v.2.length ≤ 8
theorem WF.ops {st : VS} {n : Nat} (h : WF st n) : opsLe st := fun i hi => by have := (h.io i hi).1;omega
theorem lk_memL {κ α : Type} [DecidableEq κ] {m : List (κ × α)} {x : κ} {a : α} (h : lkL m x = some a) : (x,a) ∈ m := by
 unfold lkL at h
 obtain ⟨p,hp,hx⟩ := Option.map_eq_some_iff.1 h
 have h1 := List.mem_of_find?_eq_some hp
 have h2 := List.find?_some hp
 have h3 : p.1 = x := by simpa using h2
 subst hx h3
 exact h1
theorem putL_ok' {ch : List (Int × VL)} (h : keysOK ch) (s : Int) (o : Int × List Int) : keysOK (putC s ch o) := putL_ok h _ _
theorem applyC_ok {s : Int} : ∀ {ops : VL} {ch : List (Int × VL)},keysOK ch → keysOK (applyC s ch ops)
 | [],_,h => h
 | o :: ops,_,h => applyC_ok (ops := ops) (putL_ok' h s o)
theorem applyC_len {s : Int} : ∀ {ops : VL} {ch : List (Int × VL)},keysOK ch → (applyC s ch ops).length ≤ ch.length + ops.length
 | [],_,_ => Nat.le_refl _
 | o :: ops,ch,h => by
  have h1 := applyC_len (s := s) (ops := ops) (putL_ok' h s o)
  have h2 : (putC s ch o).length ≤ ch.length + 1 := by
   unfold putC
   rcases keyCase ch h o.1 with ⟨p,b,q,rfl,hp,hq⟩ | hn
   ·rw [putL_mid hp hq];simp
   ·rw [putL_none hn];simp
  show (applyC s (putC s ch o) ops).length ≤ _
  simp only [List.length_cons]
  omega
structure AtC (ch : List (Int × VL)) (id : Int) (p q : List CR) (b : Nat) (vs : VL) : Prop where
 hv : vs = chV ch id
 hp : ∀ u ∈ p,u.1 ≠ id
 hq : ∀ u ∈ q,u.1 ≠ id
 put : ∀ w,(p ++ (id,b,w) :: q).map (fun c => (c.1,c.2.2)) = putL ch id w
theorem AtC.some {p q : List CR} {id : Int} {b : Nat} {vs : VL} (hp : ∀ u ∈ p,u.1 ≠ id) (hq : ∀ u ∈ q,u.1 ≠ id) : AtC ((p ++ (id,b,vs) :: q).map fun c => (c.1,c.2.2)) id p q b vs := by
 have h1 : ∀ u ∈ p.map (fun c : CR => (c.1,c.2.2)),u.1 ≠ id := fun u hu => by obtain ⟨w,hw,rfl⟩ := List.mem_map.1 hu;exact hp w hw
 have h2 : ∀ u ∈ q.map (fun c : CR => (c.1,c.2.2)),u.1 ≠ id := fun u hu => by obtain ⟨w,hw,rfl⟩ := List.mem_map.1 hu;exact hq w hw
 refine ⟨?_,hp,hq,fun w => ?_⟩
 ·unfold chV
  rw [List.map_append,List.map_cons,lkL_mid h1];rfl
 ·rw [List.map_append,List.map_append,List.map_cons,List.map_cons,putL_mid h1 h2]
theorem AtC.none {cs : List CR} {id : Int} {b : Nat} (hn : ∀ u ∈ cs,u.1 ≠ id) : AtC (cs.map fun c => (c.1,c.2.2)) id cs [] b [] := by
 have h1 : ∀ u ∈ cs.map (fun c : CR => (c.1,c.2.2)),u.1 ≠ id := fun u hu => by obtain ⟨w,hw,rfl⟩ := List.mem_map.1 hu;exact hn w hw
 refine ⟨?_,hn,by simp,fun w => ?_⟩
 ·unfold chV
  rw [lkL_none h1];rfl
 ·rw [List.map_append,putL_none h1];rfl
end Go.Proofs.YtiampehfpgcogaaGreatDoor
namespace Go.Proofs.YtiampehfpgcogaaGreatDoor
open Go Go.SX
attribute [local irreducible] swp opsS thenS blockS retS CallsS St Ent YieldS anyS drawS
attribute [local irreducible] opsI
end Go.Proofs.YtiampehfpgcogaaGreatDoor
namespace Go.Proofs.YtiampehfpgcogaaGreatDoor
open Go Go.SX
attribute [local irreducible] swp opsS thenS blockS retS CallsS St Ent YieldS anyS drawS
attribute [local irreducible] ar
abbrev AR (bk : Nat) (d : Array Int) (rs : List Value) : HP := pt bk (cl (ar .u64 d rs) 29)
abbrev SV (bk n c : Nat) : Value := .slice (some ⟨bk,0,none⟩) n c
theorem Less_spec (x y : Int) (L : List HP) : CallsS Tryz.prog 149 [.int .u64 x,.int .u64 y] L (fun v L' => v = .bool (Sort.ltInt x y) ∧ L' = L) := by
 have nan : ∀ z,CallsS Tryz.prog 171 [.int .u64 z] L (fun v L' => v = .bool false ∧ L' = L) := fun z => by
  refine CallsS.of_body Tryz.func171 rfl rfl rfl ?_
  refine Q.r ?_;(repeat (intro b1;refine Q.r ?_))
  exact N.r1 (RV.tmp rfl RV.nil) (Ent.refl _) ⟨by simp [packV],rfl⟩
 refine CallsS.of_body Tryz.func149 rfl rfl rfl ?_
 refine Q.r ?_;(repeat (intro b1;refine Q.r ?_))
 refine S.cr rfl (nan x) ?_
 rintro _ _ ⟨rfl,rfl⟩
 refine Q.r ?_;(repeat (intro b1;refine Q.r ?_))
 exact N.r1 (RV.tmp rfl RV.nil) (Ent.refl _) ⟨rfl,rfl⟩
set_option maxHeartbeats 4000000 in
theorem insertionSort_spec (bk n c a b : Nat) (d : Array Int) (rs : List Value) (L : List HP) (hd : d.size = n) (ha : a ≤ n) (hb : b ≤ n) (hn : n ≤ 4611686018427387904) :
  CallsS Tryz.prog 143 [SV bk n c,.int .i64 a,.int .i64 b] (AR bk d rs :: L) (fun v L' => v = .tuple #[] ∧ L' = AR bk (Sort.insertionSort Sort.ltInt d a b) rs :: L) := by
 refine CallsS.of_body Tryz.func143 rfl rfl rfl ?_
 refine Q.rn ?_;(repeat (intro b1;refine Q.rn ?_))
 refine swp_loop (σ := Nat × Array Int) (fun s => [(0,SV bk n c),(1,.int .i64 a),(2,.int .i64 b),(6,.int .i64 s.1)]) (fun s => AR bk s.2 rs :: L)
  (fun s => a + 1 ≤ s.1 ∧ s.1 ≤ n + 1 ∧ s.2.size = n ∧ Sort.insOuter Sort.ltInt a b s.1 s.2 = Sort.insertionSort Sort.ltInt d a b) (fun s => b - s.1) (a + 1,d) ⟨rfl,rfl,rfl,rfl,trivial⟩ (by exact Go.SX.Ent.go) ⟨Nat.le_refl _,by dsimp only;omega,hd,rfl⟩ ?_
 rintro ⟨i,e⟩ ⟨h1,h2,h3,h4⟩
 dsimp only at h1 h2 h3 h4 ⊢
 rw [Sort.insOuter] at h4
 by_cases hi : i < b
 ·rw [if_pos hi] at h4
  refine Q.rn ?_;(repeat (intro b1;refine Q.rn ?_))
  refine swp_loop (σ := Nat × Array Int) (fun s => [(0,SV bk n c),(1,.int .i64 a),(2,.int .i64 b),(6,.int .i64 i),(7,.int .i64 s.1)]) (fun s => AR bk s.2 rs :: L)
   (fun s => s.1 ≤ i ∧ s.2.size = n ∧ Sort.insInner Sort.ltInt a s.1 s.2 = Sort.insInner Sort.ltInt a i e) (fun s => s.1) (i,e) ⟨rfl,rfl,rfl,rfl,rfl,trivial⟩ (by exact Go.SX.Ent.go) ⟨Nat.le_refl _,h3,rfl⟩ ?_
  rintro ⟨j,g⟩ ⟨g1,g2,g3⟩
  dsimp only at g1 g2 g3 ⊢
  by_cases hj : a < j
  ·obtain ⟨k,rfl⟩ : ∃ k,j = k + 1 := ⟨j - 1,by omega⟩
   rw [Sort.insInner,show decide (k + 1 > a) = true by simpa using hj,Bool.true_and] at g3
   refine Q.rn ?_;(repeat (intro b1;refine Q.rn ?_))
   refine Q.dgo [true] [13] [] [0,1,2,3,4,5,6,7,8,9,10,11,12,13,14] ?_
   refine Q.rdn ?_;(repeat (intro b1;refine Q.rdn ?_))
   refine D.e rfl rfl rfl ?_
   refine S.guard rfl ?_
   refine S.cr rfl (Less_spec _ _ _) ?_
   rintro _ M ⟨rfl,rfl⟩
   cases hl : Sort.ltInt g[k + 1]! g[k]! with
   | false =>
    rw [show k + 1 - 1 = k from rfl,hl]
    rw [hl] at g3
    refine Q.rn ?_;(repeat (intro b1;refine Q.rn ?_))
    refine Q.rdn ?_;(repeat (intro b1;refine Q.rdn ?_))
    refine Q.rn ?_;(repeat (intro b1;refine Q.rn ?_))
    refine ⟨(i + 1,g),⟨rfl,rfl,rfl,rfl,trivial⟩,by exact Go.SX.Ent.go,⟨by dsimp only;omega,by dsimp only;omega,g2,?_⟩,by dsimp only;omega⟩
    simp only [Bool.false_eq_true,if_false] at g3
    rw [g3];exact h4
   | true =>
    rw [show k + 1 - 1 = k from rfl,hl]
    rw [hl] at g3
    refine Q.rn ?_;(repeat (intro b1;refine Q.rn ?_))
    refine Q.rdn ?_;(repeat (intro b1;refine Q.rdn ?_))
    refine Q.rn ?_;(repeat (intro b1;refine Q.rn ?_))
    refine Q.dgo [true] [15,17] [15] [0,1,2,3,4,5,6,7,8,9,10,11,12,13,14,15,16,17] ?_
    refine Q.rdn ?_;(repeat (intro b1;refine Q.rdn ?_))
    refine Q.dc rfl rfl rfl rfl ?_
    refine Q.rn ?_;(repeat (intro b1;refine Q.rn ?_))
    refine Q.rdn ?_;(repeat (intro b1;refine Q.rdn ?_))
    refine D.e rfl rfl rfl ?_
    refine Q.rn ?_;(repeat (intro b1;refine Q.rn ?_))
    refine Q.rdn ?_;(repeat (intro b1;refine Q.rdn ?_))
    refine Q.rn ?_;(repeat (intro b1;refine Q.rn ?_))
    simp only [if_true] at g3
    exact ⟨(k,Sort.swp g (k + 1) k),⟨rfl,rfl,rfl,rfl,rfl,trivial⟩,Ent.refl _,⟨by dsimp only;omega,by rw [swp_size];exact g2,g3⟩,by dsimp only;omega⟩
  ·have hgg : Sort.insInner Sort.ltInt a j g = g := by
    cases j with
    | zero => rfl
    | succ j => rw [Sort.insInner,show decide (j + 1 > a) = false by simpa using hj];simp
   rw [hgg] at g3
   refine Q.rn ?_;(repeat (intro b1;refine Q.rn ?_))
   refine Q.dgo [true] [13] [] [0,1,2,3,4,5,6,7,8,9,10,11,12,13,14] ?_
   refine Q.rdn ?_;(repeat (intro b1;refine Q.rdn ?_))
   refine Q.rn ?_;(repeat (intro b1;refine Q.rn ?_))
   exact ⟨(i + 1,g),⟨rfl,rfl,rfl,rfl,trivial⟩,Ent.refl _,⟨by dsimp only;omega,by dsimp only;omega,g2,by dsimp only;rw [g3];exact h4⟩,by dsimp only;omega⟩
 ·rw [if_neg hi] at h4
  subst h4
  refine Q.rn ?_;(repeat (intro b1;refine Q.rn ?_))
  exact N.n0 RV.nil (Ent.refl _) ⟨rfl,rfl⟩
set_option maxHeartbeats 8000000 in
theorem siftDown_spec (bk n c lo hi first : Nat) (d : Array Int) (rs : List Value) (L : List HP) (hd : d.size = n) (hlo : lo ≤ hi) (hb : first + hi ≤ n) (hn : n ≤ 17592186044416) :
  CallsS Tryz.prog 166 [SV bk n c,.int .i64 lo,.int .i64 hi,.int .i64 first] (AR bk d rs :: L) (fun v L' => v = .tuple #[] ∧ L' = AR bk (Sort.siftDown Sort.ltInt hi first lo d) rs :: L) := by
 refine CallsS.of_body Tryz.func166 rfl rfl rfl ?_
 refine Q.rn ?_;(repeat (intro b1;refine Q.rn ?_))
 refine swp_loop (σ := Nat × Array Int) (fun s => [(0,SV bk n c),(2,.int .i64 hi),(3,.int .i64 first),(8,.int .i64 s.1)]) (fun s => AR bk s.2 rs :: L)
  (fun s => s.1 ≤ hi ∧ s.2.size = n ∧ Sort.siftDown Sort.ltInt hi first s.1 s.2 = Sort.siftDown Sort.ltInt hi first lo d) (fun s => hi - s.1) (lo,d) ⟨rfl,rfl,rfl,rfl,trivial⟩ (by exact Go.SX.Ent.go) ⟨hlo,hd,rfl⟩ ?_
 rintro ⟨r,e⟩ ⟨h1,h2,h3⟩
 dsimp only at h1 h2 h3 ⊢
 rw [Sort.siftDown] at h3
 by_cases hr : 2 * r + 1 ≥ hi
 ·rw [dif_pos hr] at h3
  subst h3
  refine Q.rn ?_;(repeat (intro b1;refine Q.rn ?_))
  exact N.n0 RV.nil (Ent.refl _) ⟨rfl,rfl⟩
 rw [dif_neg hr] at h3
 refine Q.rn ?_;(repeat (intro b1;refine Q.rn ?_))
 refine swp_cutT (σ := Bool) (fun s => [(0,SV bk n c),(2,.int .i64 hi),(3,.int .i64 first),(8,.int .i64 r),(9,.int .i64 (2 * r + 1 : Nat)),(36,.bool s)]) (fun s => AR bk e rs :: L)
  (fun s => s = (decide (2 * r + 1 + 1 < hi) && Sort.ltInt e[first + (2 * r + 1)]! e[first + (2 * r + 1) + 1]!)) ?_ ?_
 ·by_cases hc : 2 * r + 1 + 1 < hi
  ·refine Q.dgo [true] [18] [] [0,1,2,3,4,5,6,7,8,9,10,11,12,13,14,15,16,17,18,19] ?_
   refine Q.rdn ?_;(repeat (intro b1;refine Q.rdn ?_))
   refine D.e rfl rfl rfl ?_
   refine S.guard rfl ?_
   refine S.cr rfl (Less_spec _ _ _) ?_
   rintro _ M ⟨rfl,rfl⟩
   refine Q.rn ?_;(repeat (intro b1;refine Q.rn ?_))
   refine Q.rdn ?_;(repeat (intro b1;refine Q.rdn ?_))
   first | refine N.tn ?_ | skip
   exact ⟨_,⟨rfl,rfl,rfl,rfl,rfl,rfl,trivial⟩,Ent.refl _,by simp [hc]⟩
  ·refine Q.dgo [true] [18] [] [0,1,2,3,4,5,6,7,8,9,10,11,12,13,14,15,16,17,18,19] ?_
   refine Q.rdn ?_;(repeat (intro b1;refine Q.rdn ?_))
   first | refine N.tn ?_ | skip
   exact ⟨false,⟨rfl,rfl,rfl,rfl,rfl,rfl,trivial⟩,Ent.refl _,by simp [hc]⟩
 intro s hs
 refine swp_cutT (σ := Nat) (fun ch => [(0,SV bk n c),(2,.int .i64 hi),(3,.int .i64 first),(8,.int .i64 r),(9,.int .i64 ch)]) (fun _ => AR bk e rs :: L)
  (fun ch => ch < hi ∧ r < ch ∧ (if (!Sort.ltInt e[first + r]! e[first + ch]!) = true then e else Sort.siftDown Sort.ltInt hi first ch (Sort.swp e (first + r) (first + ch))) = Sort.siftDown Sort.ltInt hi first lo d) ?_ ?_
 ·rw [← hs] at h3
  cases s with
  | true =>
   have hc : 2 * r + 1 + 1 < hi := by
    by_cases hc : 2 * r + 1 + 1 < hi
    ·exact hc
    ·simp [hc] at hs
   rw [if_pos rfl,dif_pos (show 2 * r + 2 < hi from hc)] at h3
   refine Q.rn ?_;(repeat (intro b1;refine Q.rn ?_))
   first | refine N.tn ?_ | skip
   exact ⟨2 * r + 1 + 1,⟨rfl,rfl,rfl,rfl,rfl,trivial⟩,Ent.refl _,hc,by omega,h3⟩
  | false =>
   simp only [Bool.false_eq_true,if_false] at h3
   refine Q.rn ?_;(repeat (intro b1;refine Q.rn ?_))
   first | refine N.tn ?_ | skip
   exact ⟨2 * r + 1,⟨rfl,rfl,rfl,rfl,rfl,trivial⟩,Ent.refl _,by omega,by omega,h3⟩
 rintro ch ⟨c1,c2,c3⟩
 clear hs h3
 refine Q.rn ?_;(repeat (intro b1;refine Q.rn ?_))
 refine Q.dgo [true] [12] [] [0,1,2,3,4,5,6,7,8,9,10,11,12,13] ?_
 refine Q.rdn ?_;(repeat (intro b1;refine Q.rdn ?_))
 refine D.e rfl rfl rfl ?_
 refine S.cr rfl (Less_spec _ _ _) ?_
 rintro _ M ⟨rfl,rfl⟩
 cases hl : Sort.ltInt e[first + r]! e[first + ch]! with
 | false =>
  rw [hl] at c3
  simp only [Bool.not_false,if_true] at c3
  subst c3
  refine Q.rn ?_;(repeat (intro b1;refine Q.rn ?_))
  refine Q.rdn ?_;(repeat (intro b1;refine Q.rdn ?_))
  refine Q.rn ?_;(repeat (intro b1;refine Q.rn ?_))
  exact N.r0 RV.nil (Ent.refl _) ⟨rfl,rfl⟩
 | true =>
  rw [hl] at c3
  simp only [Bool.not_true,Bool.false_eq_true,if_false] at c3
  refine Q.rn ?_;(repeat (intro b1;refine Q.rn ?_))
  refine Q.rdn ?_;(repeat (intro b1;refine Q.rdn ?_))
  refine Q.rn ?_;(repeat (intro b1;refine Q.rn ?_))
  refine Q.dgo [true] [21,23] [21] [0,1,2,3,4,5,6,7,8,9,10,11,12,13,14,15,16,17,18,19,20,21,22,23] ?_
  refine Q.rdn ?_;(repeat (intro b1;refine Q.rdn ?_))
  refine Q.dc rfl rfl rfl rfl ?_
  refine Q.rn ?_;(repeat (intro b1;refine Q.rn ?_))
  refine Q.rdn ?_;(repeat (intro b1;refine Q.rdn ?_))
  refine D.e rfl rfl rfl ?_
  refine Q.rn ?_;(repeat (intro b1;refine Q.rn ?_))
  refine Q.rdn ?_;(repeat (intro b1;refine Q.rdn ?_))
  refine Q.rn ?_;(repeat (intro b1;refine Q.rn ?_))
  exact ⟨(ch,Sort.swp e (first + r) (first + ch)),⟨rfl,rfl,rfl,rfl,trivial⟩,Ent.refl _,⟨by dsimp only;omega,by rw [swp_size];exact h2,c3⟩,by dsimp only;omega⟩
theorem siftDown_size : ∀ (hi first root : Nat) (d : Array Int),(Sort.siftDown Sort.ltInt hi first root d).size = d.size := by
 intro hi first root d
 induction h : hi - root using Nat.strongRecOn generalizing root d with
 | _ k ih =>
  rw [Sort.siftDown]
  split
  ·rfl
  ·split
   ·split
    ·rfl
    ·split
     ·rw [ih _ (by omega) _ _ rfl,swp_size]
     ·rfl
   ·split
    ·rfl
    ·rw [ih _ (by omega) _ _ rfl,swp_size]
set_option maxHeartbeats 8000000 in
theorem heapSort_spec (bk n c a b : Nat) (d : Array Int) (rs : List Value) (L : List HP) (hd : d.size = n) (ha : a < b) (hb : b ≤ n) (hn : n ≤ 17592186044416) :
  CallsS Tryz.prog 144 [SV bk n c,.int .i64 a,.int .i64 b] (AR bk d rs :: L) (fun v L' => v = .tuple #[] ∧ L' = AR bk (Sort.heapSort Sort.ltInt d a b) rs :: L) := by
 refine CallsS.of_body Tryz.func144 rfl rfl rfl ?_
 refine Q.rn ?_;(repeat (intro b1;refine Q.rn ?_))
 have hsub : ∀ k : Nat,((k + 1 : Nat) : Int) - 1 = (k : Int) := fun k => by omega
 refine swp_cutB (σ := Array Int) (fun _ => [(0,SV bk n c),(6,.int .i64 a),(7,.int .i64 (0 : Nat)),(8,.int .i64 (b - a : Nat))]) (fun e => AR bk e rs :: L)
  (fun e => e.size = n ∧ e = Sort.heapBuild Sort.ltInt (b - a) a ((b - a - 1) / 2 + 1) d) ?_ ?_
 ·refine swp_loop (σ := Nat × Array Int) (fun s => [(0,SV bk n c),(6,.int .i64 a),(7,.int .i64 (0 : Nat)),(8,.int .i64 (b - a : Nat)),(9,.int .i64 ((s.1 : Int) - 1))]) (fun s => AR bk s.2 rs :: L)
   (fun s => s.1 ≤ b - a ∧ s.2.size = n ∧ Sort.heapBuild Sort.ltInt (b - a) a s.1 s.2 = Sort.heapBuild Sort.ltInt (b - a) a ((b - a - 1) / 2 + 1) d) (fun s => s.1) ((b - a - 1) / 2 + 1,d) ⟨rfl,rfl,rfl,rfl,congrArg some (congrArg (Value.int .i64) (by omega)),trivial⟩ (by exact Go.SX.Ent.go) ⟨by dsimp only;omega,hd,rfl⟩ ?_
  rintro ⟨k,e⟩ ⟨h1,h2,h3⟩
  dsimp only at h1 h2 h3 ⊢
  cases k with
  | zero =>
   refine Q.rn ?_;(repeat (intro b1;refine Q.rn ?_))
   exact ⟨e,⟨rfl,rfl,rfl,rfl,trivial⟩,Ent.refl _,h2,h3⟩
  | succ k =>
   rw [hsub]
   refine Q.rn ?_;(repeat (intro b1;refine Q.rn ?_))
   refine S.cr rfl (siftDown_spec bk n c k (b - a) a e rs L h2 (by omega) (by omega) hn) ?_
   rintro _ _ ⟨rfl,rfl⟩
   refine Q.rn ?_;(repeat (intro b1;refine Q.rn ?_))
   exact ⟨(k,_),⟨rfl,rfl,rfl,rfl,rfl,trivial⟩,Ent.refl _,⟨by dsimp only;omega,by rw [siftDown_size];exact h2,h3⟩,by dsimp only;omega⟩
 rintro e ⟨h2,rfl⟩
 refine Q.rn ?_;(repeat (intro b1;refine Q.rn ?_))
 refine swp_loop (σ := Nat × Array Int) (fun s => [(0,SV bk n c),(6,.int .i64 a),(7,.int .i64 (0 : Nat)),(10,.int .i64 ((s.1 : Int) - 1))]) (fun s => AR bk s.2 rs :: L)
  (fun s => s.1 ≤ b - a ∧ s.2.size = n ∧ Sort.heapPop Sort.ltInt a s.1 s.2 = Sort.heapSort Sort.ltInt d a b) (fun s => s.1) (b - a,Sort.heapBuild Sort.ltInt (b - a) a ((b - a - 1) / 2 + 1) d) ⟨rfl,rfl,rfl,congrArg some (congrArg (Value.int .i64) (by omega)),trivial⟩ (by exact Go.SX.Ent.go) ⟨Nat.le_refl _,h2,rfl⟩ ?_
 clear h2
 rintro ⟨k,e⟩ ⟨h1,h2,h3⟩
 dsimp only at h1 h2 h3 ⊢
 cases k with
 | zero =>
  refine Q.rn ?_;(repeat (intro b1;refine Q.rn ?_))
  exact N.n0 RV.nil (Ent.refl _) ⟨rfl,by rw [← h3];rfl⟩
 | succ k =>
  rw [hsub]
  refine Q.rn ?_;(repeat (intro b1;refine Q.rn ?_))
  refine Q.dgo [true] [17,19] [17] [0,1,2,3,4,5,6,7,8,9,10,11,12,13,14,15,16,17,18,19] ?_
  refine Q.rdn ?_;(repeat (intro b1;refine Q.rdn ?_))
  refine Q.dc rfl rfl rfl rfl ?_
  refine Q.rn ?_;(repeat (intro b1;refine Q.rn ?_))
  refine Q.rdn ?_;(repeat (intro b1;refine Q.rdn ?_))
  refine D.e rfl rfl rfl ?_
  refine Q.rn ?_;(repeat (intro b1;refine Q.rn ?_))
  refine Q.rdn ?_;(repeat (intro b1;refine Q.rdn ?_))
  refine Q.rn ?_;(repeat (intro b1;refine Q.rn ?_))
  refine S.cr rfl (siftDown_spec bk n c 0 k a (Sort.swp e a (a + k)) rs L (by rw [swp_size];exact h2) (by omega) (by omega) hn) ?_
  rintro _ _ ⟨rfl,rfl⟩
  refine Q.rn ?_;(repeat (intro b1;refine Q.rn ?_))
  exact ⟨(k,_),⟨rfl,rfl,rfl,rfl,trivial⟩,Ent.refl _,⟨by dsimp only;omega,by rw [siftDown_size,swp_size];exact h2,h3⟩,by dsimp only;omega⟩
set_option maxHeartbeats 8000000 in
theorem reverseRange_spec (bk n c a b : Nat) (d : Array Int) (rs : List Value) (L : List HP) (hd : d.size = n) (ha : a < b) (hb : b ≤ n) (hn : n ≤ 17592186044416) :
  CallsS Tryz.prog 147 [SV bk n c,.int .i64 a,.int .i64 b] (AR bk d rs :: L) (fun v L' => v = .tuple #[] ∧ L' = AR bk (Sort.reverseRange d a b) rs :: L) := by
 refine CallsS.of_body Tryz.func147 rfl rfl rfl ?_
 refine Q.rn ?_;(repeat (intro b1;refine Q.rn ?_))
 refine swp_loop (σ := Nat × Nat × Array Int) (fun s => [(0,SV bk n c),(6,.int .i64 s.1),(7,.int .i64 s.2.1)]) (fun s => AR bk s.2.2 rs :: L)
  (fun s => s.1 ≤ b ∧ s.2.1 < b ∧ s.2.2.size = n ∧ Sort.reverseLoop s.1 s.2.1 s.2.2 = Sort.reverseRange d a b) (fun s => s.2.1 - s.1) (a,b - 1,d) ⟨rfl,rfl,rfl,trivial⟩ (by exact Go.SX.Ent.go) ⟨by dsimp only;omega,by dsimp only;omega,hd,rfl⟩ ?_
 rintro ⟨i,j,e⟩ ⟨h1,h2,h3,h4⟩
 dsimp only at h1 h2 h3 h4 ⊢
 rw [Sort.reverseLoop] at h4
 by_cases hij : i < j
 ·rw [if_pos hij] at h4
  refine Q.rn ?_;(repeat (intro b1;refine Q.rn ?_))
  refine Q.dgo [true] [13,15] [13] [0,1,2,3,4,5,6,7,8,9,10,11,12,13,14,15] ?_
  refine Q.rdn ?_;(repeat (intro b1;refine Q.rdn ?_))
  refine Q.dc rfl rfl rfl rfl ?_
  refine Q.rn ?_;(repeat (intro b1;refine Q.rn ?_))
  refine Q.rdn ?_;(repeat (intro b1;refine Q.rdn ?_))
  refine D.e rfl rfl rfl ?_
  refine Q.rn ?_;(repeat (intro b1;refine Q.rn ?_))
  refine Q.rdn ?_;(repeat (intro b1;refine Q.rdn ?_))
  refine Q.rn ?_;(repeat (intro b1;refine Q.rn ?_))
  exact ⟨(i + 1,j - 1,Sort.swp e i j),⟨rfl,rfl,rfl,trivial⟩,Ent.refl _,⟨by dsimp only;omega,by dsimp only;omega,by rw [swp_size];exact h3,h4⟩,by dsimp only;omega⟩
 ·rw [if_neg hij] at h4
  subst h4
  refine Q.rn ?_;(repeat (intro b1;refine Q.rn ?_))
  exact N.n0 RV.nil (Ent.refl _) ⟨rfl,rfl⟩
theorem scanUp_ge (p : Int → Bool) (d : Array Int) (j i : Nat) : i ≤ Sort.scanUp p d j i ∧ (Sort.scanUp p d j i ≤ i ∨ Sort.scanUp p d j i ≤ j + 1) := by
 induction h : j + 1 - i using Nat.strongRecOn generalizing i with
 | _ k ih =>
  rw [Sort.scanUp]
  split
  ·rename_i hc
   simp only [Bool.and_eq_true,decide_eq_true_eq] at hc
   have := ih _ (by omega) (i + 1) rfl
   omega
  ·omega
theorem scanDown_le (p : Int → Bool) (d : Array Int) (i : Nat) : ∀ j,Sort.scanDown p d i j ≤ j ∧ (i ≤ Sort.scanDown p d i j + 1 ∨ Sort.scanDown p d i j = j)
 | 0 => by simp [Sort.scanDown]
 | j + 1 => by
  rw [Sort.scanDown]
  split
  ·rename_i hc
   simp only [Bool.and_eq_true,decide_eq_true_eq] at hc
   have := scanDown_le p d i j
   omega
  ·omega
set_option maxHeartbeats 20000000 in
theorem partition_spec (bk n c a b pv : Nat) (d : Array Int) (rs : List Value) (L : List HP) (hd : d.size = n) (ha : a ≤ pv) (hp : pv < b) (hb : b ≤ n) (hn : n ≤ 17592186044416) :
  CallsS Tryz.prog 151 [SV bk n c,.int .i64 a,.int .i64 b,.int .i64 pv] (AR bk d rs :: L)
   (fun v L' => v = .tuple #[.int .i64 (Sort.partition Sort.ltInt d a b pv).1,.bool (Sort.partition Sort.ltInt d a b pv).2.1] ∧ L' = AR bk (Sort.partition Sort.ltInt d a b pv).2.2 rs :: L) := by
 refine CallsS.of_body Tryz.func151 rfl rfl rfl ?_
 refine Q.rn ?_;(repeat (intro b1;refine Q.rn ?_))
 refine Q.dgo [true] [13,15] [13] [0,1,2,3,4,5,6,7,8,9,10,11,12,13,14,15] ?_;(refine Q.rdn ?_;(repeat (intro b1;refine Q.rdn ?_)));refine Q.dc rfl rfl rfl rfl ?_;(refine Q.rn ?_;(repeat (intro b1;refine Q.rn ?_)));(refine Q.rdn ?_;(repeat (intro b1;refine Q.rdn ?_)));refine D.e rfl rfl rfl ?_;(refine Q.rn ?_;(repeat (intro b1;refine Q.rn ?_)));(refine Q.rdn ?_;(repeat (intro b1;refine Q.rdn ?_)));(refine Q.rn ?_;(repeat (intro b1;refine Q.rn ?_)))
 have he : (Sort.swp d a pv).size = n := by rw [swp_size];exact hd
 obtain ⟨e,hee⟩ : ∃ e,e = Sort.swp d a pv := ⟨_,rfl⟩
 obtain ⟨i0,hi0⟩ : ∃ i0,i0 = Sort.scanUp (fun x => Sort.ltInt x e[a]!) e (b - 1) (a + 1) := ⟨_,rfl⟩
 obtain ⟨j0,hj0⟩ : ∃ j0,j0 = Sort.scanDown (fun x => !Sort.ltInt x e[a]!) e i0 (b - 1) := ⟨_,rfl⟩
 have hpart : Sort.partition Sort.ltInt d a b pv = (if i0 > j0 then (j0,true,Sort.swp e j0 a) else ((Sort.partLoop Sort.ltInt a (i0 + 1) (j0 - 1) (Sort.swp e i0 j0)).1,false,Sort.swp (Sort.partLoop Sort.ltInt a (i0 + 1) (j0 - 1) (Sort.swp e i0 j0)).2 (Sort.partLoop Sort.ltInt a (i0 + 1) (j0 - 1) (Sort.swp e i0 j0)).1 a)) := by
  subst hee hj0 hi0;rfl
 rw [← hee] at he
 rw [hpart]
 clear hpart
 have bi := scanUp_ge (fun x => Sort.ltInt x e[a]!) e (b - 1) (a + 1)
 have bj := scanDown_le (fun x => !Sort.ltInt x e[a]!) e i0 (b - 1)
 rw [← hi0] at bi
 rw [← hj0] at bj
 refine swp_cutB (σ := Unit) (fun _ => [(0,SV bk n c),(1,.int .i64 a),(10,.int .i64 i0),(11,.int .i64 (b - 1 : Nat))]) (fun _ => AR bk e rs :: L) (fun _ => True) ?_ ?_
 ·refine swp_loop (σ := Nat) (fun s => [(0,SV bk n c),(1,.int .i64 a),(10,.int .i64 s),(11,.int .i64 (b - 1 : Nat))]) (fun s => AR bk e rs :: L)
   (fun s => a + 1 ≤ s ∧ Sort.scanUp (fun x => Sort.ltInt x e[a]!) e (b - 1 : Nat) s = i0) (fun s => (b - 1 : Nat) + 1 - s) (a + 1) ⟨rfl,rfl,rfl,rfl,trivial⟩ (by rw [hee];exact Ent.refl _) ⟨Nat.le_refl _,hi0.symm⟩ ?_
  rintro i ⟨g1,g3⟩
  rw [Sort.scanUp] at g3
  by_cases hi : i ≤ (b - 1 : Nat)
  ·refine Q.rn ?_;(repeat (intro b1;refine Q.rn ?_))
   refine Q.dgo [true] [12] [] [0,1,2,3,4,5,6,7,8,9,10,11,12,13] ?_
   refine Q.rdn ?_;(repeat (intro b1;refine Q.rdn ?_))
   refine D.e rfl rfl rfl ?_
   refine S.guard rfl ?_
   refine S.cr rfl (Less_spec _ _ _) ?_
   rintro _ M ⟨rfl,rfl⟩
   rw [show decide (i ≤ (b - 1 : Nat)) = true by simpa using hi,Bool.true_and] at g3
   cases hl : Sort.ltInt e[i]! e[a]! with
   | true =>
    rw [hl] at g3
    simp only [Bool.not_false,Bool.not_true,if_true] at g3
    refine Q.rn ?_;(repeat (intro b1;refine Q.rn ?_))
    refine Q.rdn ?_;(repeat (intro b1;refine Q.rdn ?_))
    refine Q.rn ?_;(repeat (intro b1;refine Q.rn ?_))
    exact ⟨i + 1,⟨rfl,rfl,rfl,rfl,trivial⟩,Ent.refl _,⟨by omega,g3⟩,by omega⟩
   | false =>
    rw [hl] at g3
    simp only [Bool.not_false,Bool.not_true,Bool.false_eq_true,if_false] at g3
    refine Q.rn ?_;(repeat (intro b1;refine Q.rn ?_))
    refine Q.rdn ?_;(repeat (intro b1;refine Q.rdn ?_))
    refine Q.rn ?_;(repeat (intro b1;refine Q.rn ?_))
    exact ⟨(),⟨rfl,rfl,by rw [g3];rfl,rfl,trivial⟩,Ent.refl _,trivial⟩
  ·rw [show decide (i ≤ (b - 1 : Nat)) = false by simpa using hi,Bool.false_and] at g3
   simp only [Bool.false_eq_true,if_false] at g3
   refine Q.rn ?_;(repeat (intro b1;refine Q.rn ?_))
   refine Q.dgo [true] [12] [] [0,1,2,3,4,5,6,7,8,9,10,11,12,13] ?_
   refine Q.rdn ?_;(repeat (intro b1;refine Q.rdn ?_))
   refine Q.rn ?_;(repeat (intro b1;refine Q.rn ?_))
   exact ⟨(),⟨rfl,rfl,by rw [g3];rfl,rfl,trivial⟩,Ent.refl _,trivial⟩
 rintro _ _
 refine Q.rn ?_;(repeat (intro b1;refine Q.rn ?_))
 refine swp_cutB (σ := Unit) (fun _ => [(0,SV bk n c),(1,.int .i64 a),(10,.int .i64 i0),(11,.int .i64 j0)]) (fun _ => AR bk e rs :: L) (fun _ => True) ?_ ?_
 ·refine swp_loop (σ := Nat) (fun s => [(0,SV bk n c),(1,.int .i64 a),(10,.int .i64 i0),(11,.int .i64 s)]) (fun s => AR bk e rs :: L)
   (fun s => s ≤ (b - 1 : Nat) ∧ Sort.scanDown (fun x => !Sort.ltInt x e[a]!) e i0 s = j0) (fun s => s) ((b - 1 : Nat)) ⟨rfl,rfl,rfl,rfl,trivial⟩ (Ent.refl _) ⟨Nat.le_refl _,hj0.symm⟩ ?_
  rintro j ⟨g1,g3⟩
  by_cases hi : i0 ≤ j
  ·obtain ⟨k,rfl⟩ : ∃ k,j = k + 1 := ⟨j - 1,by omega⟩
   rw [Sort.scanDown] at g3
   refine Q.rn ?_;(repeat (intro b1;refine Q.rn ?_))
   refine Q.dgo [true] [12] [] [0,1,2,3,4,5,6,7,8,9,10,11,12,13,14] ?_
   refine Q.rdn ?_;(repeat (intro b1;refine Q.rdn ?_))
   refine D.e rfl rfl rfl ?_
   refine S.guard rfl ?_
   refine S.cr rfl (Less_spec _ _ _) ?_
   rintro _ M ⟨rfl,rfl⟩
   rw [show decide (i0 ≤ k + 1) = true by simpa using hi,Bool.true_and] at g3
   cases hl : Sort.ltInt e[k + 1]! e[a]! with
   | false =>
    rw [hl] at g3
    simp only [Bool.not_false,Bool.not_true,if_true] at g3
    refine Q.rn ?_;(repeat (intro b1;refine Q.rn ?_))
    refine Q.rdn ?_;(repeat (intro b1;refine Q.rdn ?_))
    refine Q.rn ?_;(repeat (intro b1;refine Q.rn ?_))
    exact ⟨k,⟨rfl,rfl,rfl,rfl,trivial⟩,Ent.refl _,⟨by omega,g3⟩,by omega⟩
   | true =>
    rw [hl] at g3
    simp only [Bool.not_false,Bool.not_true,Bool.false_eq_true,if_false] at g3
    refine Q.rn ?_;(repeat (intro b1;refine Q.rn ?_))
    refine Q.rdn ?_;(repeat (intro b1;refine Q.rdn ?_))
    refine Q.rn ?_;(repeat (intro b1;refine Q.rn ?_))
    exact ⟨(),⟨rfl,rfl,rfl,by rw [← g3];rfl,trivial⟩,Ent.refl _,trivial⟩
  ·have g4 : j = j0 := by
    rw [← g3]
    cases j with
    | zero => rfl
    | succ j => rw [Sort.scanDown,show decide (i0 ≤ j + 1) = false by simpa using hi];simp
   refine Q.rn ?_;(repeat (intro b1;refine Q.rn ?_))
   refine Q.dgo [true] [12] [] [0,1,2,3,4,5,6,7,8,9,10,11,12,13,14] ?_
   refine Q.rdn ?_;(repeat (intro b1;refine Q.rdn ?_))
   refine Q.rn ?_;(repeat (intro b1;refine Q.rn ?_))
   exact ⟨(),⟨rfl,rfl,rfl,by rw [g4];rfl,trivial⟩,Ent.refl _,trivial⟩
 rintro _ _
 by_cases hgt : i0 > j0
 ·rw [if_pos hgt]
  refine Q.rn ?_;(repeat (intro b1;refine Q.rn ?_))
  refine Q.dgo [true] [13,15] [13] [0,1,2,3,4,5,6,7,8,9,10,11,12,13,14,15] ?_;(refine Q.rdn ?_;(repeat (intro b1;refine Q.rdn ?_)));refine Q.dc rfl rfl rfl rfl ?_;(refine Q.rn ?_;(repeat (intro b1;refine Q.rn ?_)));(refine Q.rdn ?_;(repeat (intro b1;refine Q.rdn ?_)));refine D.e rfl rfl rfl ?_;(refine Q.rn ?_;(repeat (intro b1;refine Q.rn ?_)));(refine Q.rdn ?_;(repeat (intro b1;refine Q.rdn ?_)));(refine Q.rn ?_;(repeat (intro b1;refine Q.rn ?_)))
  exact N.r2 (RV.tmp rfl (RV.tmp rfl RV.nil)) (Ent.refl _) ⟨rfl,rfl⟩
 rw [if_neg hgt]
 refine Q.rn ?_;(repeat (intro b1;refine Q.rn ?_))
 refine Q.dgo [true] [13,15] [13] [0,1,2,3,4,5,6,7,8,9,10,11,12,13,14,15] ?_;(refine Q.rdn ?_;(repeat (intro b1;refine Q.rdn ?_)));refine Q.dc rfl rfl rfl rfl ?_;(refine Q.rn ?_;(repeat (intro b1;refine Q.rn ?_)));(refine Q.rdn ?_;(repeat (intro b1;refine Q.rdn ?_)));refine D.e rfl rfl rfl ?_;(refine Q.rn ?_;(repeat (intro b1;refine Q.rn ?_)));(refine Q.rdn ?_;(repeat (intro b1;refine Q.rdn ?_)));(refine Q.rn ?_;(repeat (intro b1;refine Q.rn ?_)))
 obtain ⟨pr,hpr⟩ : ∃ pr,pr = Sort.partLoop Sort.ltInt a (i0 + 1) (j0 - 1) (Sort.swp e i0 j0) := ⟨_,rfl⟩
 rw [← hpr]
 refine swp_cutB (σ := Unit) (fun _ => [(0,SV bk n c),(1,.int .i64 a),(11,.int .i64 pr.1)]) (fun _ => AR bk pr.2 rs :: L) (fun _ => pr.1 < b ∧ pr.2.size = n) ?_ ?_
 ·refine swp_loop (σ := Nat × Nat × Array Int) (fun s => [(0,SV bk n c),(1,.int .i64 a),(10,.int .i64 s.1),(11,.int .i64 s.2.1)]) (fun s => AR bk s.2.2 rs :: L)
   (fun s => a + 1 ≤ s.1 ∧ s.1 ≤ b + 1 ∧ s.2.1 < b ∧ s.2.2.size = n ∧ Sort.partLoop Sort.ltInt a s.1 s.2.1 s.2.2 = pr) (fun s => s.2.1 + 1 - s.1) (i0 + 1,j0 - 1,Sort.swp e i0 j0) ⟨rfl,rfl,rfl,rfl,trivial⟩ (Ent.refl _) ⟨by dsimp only;omega,by dsimp only;omega,by dsimp only;omega,by rw [swp_size];exact he,hpr.symm⟩ ?_
  clear hpr hgt bj bi hj0 hi0 hee he e i0 j0
  rintro ⟨i1,j1,e⟩ ⟨k1,k2,k3,he,k5⟩
  dsimp only at k1 k2 k3 he k5 ⊢
  obtain ⟨i0,hi0⟩ : ∃ i0,i0 = Sort.scanUp (fun x => Sort.ltInt x e[a]!) e j1 i1 := ⟨_,rfl⟩
  obtain ⟨j0,hj0⟩ : ∃ j0,j0 = Sort.scanDown (fun x => !Sort.ltInt x e[a]!) e i0 j1 := ⟨_,rfl⟩
  have bi := scanUp_ge (fun x => Sort.ltInt x e[a]!) e j1 i1
  have bj := scanDown_le (fun x => !Sort.ltInt x e[a]!) e i0 j1
  rw [← hi0] at bi
  rw [← hj0] at bj
  rw [Sort.partLoop] at k5
  simp only [← hi0,← hj0] at k5
  refine Q.rn ?_;(repeat (intro b1;refine Q.rn ?_))
  refine swp_cutB (σ := Unit) (fun _ => [(0,SV bk n c),(1,.int .i64 a),(10,.int .i64 i0),(11,.int .i64 j1)]) (fun _ => AR bk e rs :: L) (fun _ => True) ?_ ?_
  ·refine swp_loop (σ := Nat) (fun s => [(0,SV bk n c),(1,.int .i64 a),(10,.int .i64 s),(11,.int .i64 j1)]) (fun s => AR bk e rs :: L)
    (fun s => i1 ≤ s ∧ Sort.scanUp (fun x => Sort.ltInt x e[a]!) e j1 s = i0) (fun s => j1 + 1 - s) (i1) ⟨rfl,rfl,rfl,rfl,trivial⟩ (Ent.refl _) ⟨Nat.le_refl _,hi0.symm⟩ ?_
   rintro i ⟨g1,g3⟩
   rw [Sort.scanUp] at g3
   by_cases hi : i ≤ j1
   ·refine Q.rn ?_;(repeat (intro b1;refine Q.rn ?_))
    refine Q.dgo [true] [12] [] [0,1,2,3,4,5,6,7,8,9,10,11,12,13] ?_
    refine Q.rdn ?_;(repeat (intro b1;refine Q.rdn ?_))
    refine D.e rfl rfl rfl ?_
    refine S.guard rfl ?_
    refine S.cr rfl (Less_spec _ _ _) ?_
    rintro _ M ⟨rfl,rfl⟩
    rw [show decide (i ≤ j1) = true by simpa using hi,Bool.true_and] at g3
    cases hl : Sort.ltInt e[i]! e[a]! with
    | true =>
     rw [hl] at g3
     simp only [Bool.not_false,Bool.not_true,if_true] at g3
     refine Q.rn ?_;(repeat (intro b1;refine Q.rn ?_))
     refine Q.rdn ?_;(repeat (intro b1;refine Q.rdn ?_))
     refine Q.rn ?_;(repeat (intro b1;refine Q.rn ?_))
     exact ⟨i + 1,⟨rfl,rfl,rfl,rfl,trivial⟩,Ent.refl _,⟨by omega,g3⟩,by omega⟩
    | false =>
     rw [hl] at g3
     simp only [Bool.not_false,Bool.not_true,Bool.false_eq_true,if_false] at g3
     refine Q.rn ?_;(repeat (intro b1;refine Q.rn ?_))
     refine Q.rdn ?_;(repeat (intro b1;refine Q.rdn ?_))
     refine Q.rn ?_;(repeat (intro b1;refine Q.rn ?_))
     exact ⟨(),⟨rfl,rfl,by rw [g3];rfl,rfl,trivial⟩,Ent.refl _,trivial⟩
   ·rw [show decide (i ≤ j1) = false by simpa using hi,Bool.false_and] at g3
    simp only [Bool.false_eq_true,if_false] at g3
    refine Q.rn ?_;(repeat (intro b1;refine Q.rn ?_))
    refine Q.dgo [true] [12] [] [0,1,2,3,4,5,6,7,8,9,10,11,12,13] ?_
    refine Q.rdn ?_;(repeat (intro b1;refine Q.rdn ?_))
    refine Q.rn ?_;(repeat (intro b1;refine Q.rn ?_))
    exact ⟨(),⟨rfl,rfl,by rw [g3];rfl,rfl,trivial⟩,Ent.refl _,trivial⟩
  rintro _ _
  refine Q.rn ?_;(repeat (intro b1;refine Q.rn ?_))
  refine swp_cutB (σ := Unit) (fun _ => [(0,SV bk n c),(1,.int .i64 a),(10,.int .i64 i0),(11,.int .i64 j0)]) (fun _ => AR bk e rs :: L) (fun _ => True) ?_ ?_
  ·refine swp_loop (σ := Nat) (fun s => [(0,SV bk n c),(1,.int .i64 a),(10,.int .i64 i0),(11,.int .i64 s)]) (fun s => AR bk e rs :: L)
    (fun s => s ≤ j1 ∧ Sort.scanDown (fun x => !Sort.ltInt x e[a]!) e i0 s = j0) (fun s => s) (j1) ⟨rfl,rfl,rfl,rfl,trivial⟩ (Ent.refl _) ⟨Nat.le_refl _,hj0.symm⟩ ?_
   rintro j ⟨g1,g3⟩
   by_cases hi : i0 ≤ j
   ·obtain ⟨k,rfl⟩ : ∃ k,j = k + 1 := ⟨j - 1,by omega⟩
    rw [Sort.scanDown] at g3
    refine Q.rn ?_;(repeat (intro b1;refine Q.rn ?_))
    refine Q.dgo [true] [12] [] [0,1,2,3,4,5,6,7,8,9,10,11,12,13,14] ?_
    refine Q.rdn ?_;(repeat (intro b1;refine Q.rdn ?_))
    refine D.e rfl rfl rfl ?_
    refine S.guard rfl ?_
    refine S.cr rfl (Less_spec _ _ _) ?_
    rintro _ M ⟨rfl,rfl⟩
    rw [show decide (i0 ≤ k + 1) = true by simpa using hi,Bool.true_and] at g3
    cases hl : Sort.ltInt e[k + 1]! e[a]! with
    | false =>
     rw [hl] at g3
     simp only [Bool.not_false,Bool.not_true,if_true] at g3
     refine Q.rn ?_;(repeat (intro b1;refine Q.rn ?_))
     refine Q.rdn ?_;(repeat (intro b1;refine Q.rdn ?_))
     refine Q.rn ?_;(repeat (intro b1;refine Q.rn ?_))
     exact ⟨k,⟨rfl,rfl,rfl,rfl,trivial⟩,Ent.refl _,⟨by omega,g3⟩,by omega⟩
    | true =>
     rw [hl] at g3
     simp only [Bool.not_false,Bool.not_true,Bool.false_eq_true,if_false] at g3
     refine Q.rn ?_;(repeat (intro b1;refine Q.rn ?_))
     refine Q.rdn ?_;(repeat (intro b1;refine Q.rdn ?_))
     refine Q.rn ?_;(repeat (intro b1;refine Q.rn ?_))
     exact ⟨(),⟨rfl,rfl,rfl,by rw [← g3];rfl,trivial⟩,Ent.refl _,trivial⟩
   ·have g4 : j = j0 := by
     rw [← g3]
     cases j with
     | zero => rfl
     | succ j => rw [Sort.scanDown,show decide (i0 ≤ j + 1) = false by simpa using hi];simp
    refine Q.rn ?_;(repeat (intro b1;refine Q.rn ?_))
    refine Q.dgo [true] [12] [] [0,1,2,3,4,5,6,7,8,9,10,11,12,13,14] ?_
    refine Q.rdn ?_;(repeat (intro b1;refine Q.rdn ?_))
    refine Q.rn ?_;(repeat (intro b1;refine Q.rn ?_))
    exact ⟨(),⟨rfl,rfl,rfl,by rw [g4];rfl,trivial⟩,Ent.refl _,trivial⟩
  rintro _ _
  by_cases hgt : i0 > j0
  ·rw [if_pos hgt] at k5
   subst k5
   refine Q.rn ?_;(repeat (intro b1;refine Q.rn ?_))
   exact ⟨(),⟨rfl,rfl,rfl,trivial⟩,Ent.refl _,by dsimp only;omega,he⟩
  rw [if_neg hgt,dif_pos (by omega)] at k5
  refine Q.rn ?_;(repeat (intro b1;refine Q.rn ?_))
  refine Q.dgo [true] [13,15] [13] [0,1,2,3,4,5,6,7,8,9,10,11,12,13,14,15] ?_;(refine Q.rdn ?_;(repeat (intro b1;refine Q.rdn ?_)));refine Q.dc rfl rfl rfl rfl ?_;(refine Q.rn ?_;(repeat (intro b1;refine Q.rn ?_)));(refine Q.rdn ?_;(repeat (intro b1;refine Q.rdn ?_)));refine D.e rfl rfl rfl ?_;(refine Q.rn ?_;(repeat (intro b1;refine Q.rn ?_)));(refine Q.rdn ?_;(repeat (intro b1;refine Q.rdn ?_)));(refine Q.rn ?_;(repeat (intro b1;refine Q.rn ?_)))
  exact ⟨(i0 + 1,j0 - 1,Sort.swp e i0 j0),⟨rfl,rfl,rfl,rfl,trivial⟩,Ent.refl _,⟨by dsimp only;omega,by dsimp only;omega,by dsimp only;omega,by rw [swp_size];exact he,k5⟩,by dsimp only;omega⟩
 rintro _ ⟨hpb,hps⟩
 refine Q.rn ?_;(repeat (intro b1;refine Q.rn ?_))
 refine Q.dgo [true] [13,15] [13] [0,1,2,3,4,5,6,7,8,9,10,11,12,13,14,15] ?_;(refine Q.rdn ?_;(repeat (intro b1;refine Q.rdn ?_)));refine Q.dc rfl rfl rfl rfl ?_;(refine Q.rn ?_;(repeat (intro b1;refine Q.rn ?_)));(refine Q.rdn ?_;(repeat (intro b1;refine Q.rdn ?_)));refine D.e rfl rfl rfl ?_;(refine Q.rn ?_;(repeat (intro b1;refine Q.rn ?_)));(refine Q.rdn ?_;(repeat (intro b1;refine Q.rdn ?_)));(refine Q.rn ?_;(repeat (intro b1;refine Q.rn ?_)))
 exact N.r2 (RV.tmp rfl (RV.tmp rfl RV.nil)) (Ent.refl _) ⟨rfl,rfl⟩
set_option maxHeartbeats 20000000 in
theorem partitionEqual_spec (bk n c a b pv : Nat) (d : Array Int) (rs : List Value) (L : List HP) (hd : d.size = n) (ha : a ≤ pv) (hp : pv < b) (hb : b ≤ n) (hn : n ≤ 17592186044416) :
  CallsS Tryz.prog 150 [SV bk n c,.int .i64 a,.int .i64 b,.int .i64 pv] (AR bk d rs :: L)
   (fun v L' => v = .int .i64 (Sort.partitionEqual Sort.ltInt d a b pv).1 ∧ L' = AR bk (Sort.partitionEqual Sort.ltInt d a b pv).2 rs :: L) := by
 refine CallsS.of_body Tryz.func150 rfl rfl rfl ?_
 refine Q.rn ?_;(repeat (intro b1;refine Q.rn ?_))
 refine Q.dgo [true] [13,15] [13] [0,1,2,3,4,5,6,7,8,9,10,11,12,13,14,15] ?_;(refine Q.rdn ?_;(repeat (intro b1;refine Q.rdn ?_)));refine Q.dc rfl rfl rfl rfl ?_;(refine Q.rn ?_;(repeat (intro b1;refine Q.rn ?_)));(refine Q.rdn ?_;(repeat (intro b1;refine Q.rdn ?_)));refine D.e rfl rfl rfl ?_;(refine Q.rn ?_;(repeat (intro b1;refine Q.rn ?_)));(refine Q.rdn ?_;(repeat (intro b1;refine Q.rdn ?_)));(refine Q.rn ?_;(repeat (intro b1;refine Q.rn ?_)))
 obtain ⟨pr,hpr⟩ : ∃ pr,pr = Sort.partitionEqual Sort.ltInt d a b pv := ⟨_,rfl⟩
 rw [← hpr]
 refine swp_cutB (σ := Unit) (fun _ => [(9,.int .i64 pr.1)]) (fun _ => AR bk pr.2 rs :: L) (fun _ => True) ?_ ?_
 ·refine swp_loop (σ := Nat × Nat × Array Int) (fun s => [(0,SV bk n c),(1,.int .i64 a),(9,.int .i64 s.1),(10,.int .i64 s.2.1)]) (fun s => AR bk s.2.2 rs :: L)
   (fun s => a + 1 ≤ s.1 ∧ s.1 ≤ b + 1 ∧ s.2.1 < b ∧ s.2.2.size = n ∧ Sort.partEqLoop Sort.ltInt a s.1 s.2.1 s.2.2 = pr) (fun s => s.2.1 + 1 - s.1) (a + 1,b - 1,Sort.swp d a pv) ⟨rfl,rfl,rfl,rfl,trivial⟩ (Ent.refl _) ⟨by dsimp only;omega,by dsimp only;omega,by dsimp only;omega,by rw [swp_size];exact hd,hpr.symm⟩ ?_
  clear hpr
  rintro ⟨i1,j1,e⟩ ⟨k1,k2,k3,he,k5⟩
  dsimp only at k1 k2 k3 he k5 ⊢
  obtain ⟨i0,hi0⟩ : ∃ i0,i0 = Sort.scanUp (fun x => !Sort.ltInt e[a]! x) e j1 i1 := ⟨_,rfl⟩
  obtain ⟨j0,hj0⟩ : ∃ j0,j0 = Sort.scanDown (fun x => Sort.ltInt e[a]! x) e i0 j1 := ⟨_,rfl⟩
  have bi := scanUp_ge (fun x => !Sort.ltInt e[a]! x) e j1 i1
  have bj := scanDown_le (fun x => Sort.ltInt e[a]! x) e i0 j1
  rw [← hi0] at bi
  rw [← hj0] at bj
  rw [Sort.partEqLoop] at k5
  simp only [← hi0,← hj0] at k5
  refine Q.rn ?_;(repeat (intro b1;refine Q.rn ?_))
  refine swp_cutB (σ := Unit) (fun _ => [(0,SV bk n c),(1,.int .i64 a),(9,.int .i64 i0),(10,.int .i64 j1)]) (fun _ => AR bk e rs :: L) (fun _ => True) ?_ ?_
  ·refine swp_loop (σ := Nat) (fun s => [(0,SV bk n c),(1,.int .i64 a),(9,.int .i64 s),(10,.int .i64 j1)]) (fun s => AR bk e rs :: L)
    (fun s => i1 ≤ s ∧ Sort.scanUp (fun x => !Sort.ltInt e[a]! x) e j1 s = i0) (fun s => j1 + 1 - s) (i1) ⟨rfl,rfl,rfl,rfl,trivial⟩ (Ent.refl _) ⟨Nat.le_refl _,hi0.symm⟩ ?_
   rintro i ⟨g1,g3⟩
   rw [Sort.scanUp] at g3
   by_cases hi : i ≤ j1
   ·refine Q.rn ?_;(repeat (intro b1;refine Q.rn ?_))
    refine Q.dgo [true] [12] [] [0,1,2,3,4,5,6,7,8,9,10,11,12,13,14] ?_
    refine Q.rdn ?_;(repeat (intro b1;refine Q.rdn ?_))
    refine D.e rfl rfl rfl ?_
    refine S.guard rfl ?_
    refine S.cr rfl (Less_spec _ _ _) ?_
    rintro _ M ⟨rfl,rfl⟩
    rw [show decide (i ≤ j1) = true by simpa using hi,Bool.true_and] at g3
    cases hl : Sort.ltInt e[a]! e[i]! with
    | false =>
     rw [hl] at g3
     simp only [Bool.not_false,Bool.not_true,if_true] at g3
     refine Q.rn ?_;(repeat (intro b1;refine Q.rn ?_))
     refine Q.rdn ?_;(repeat (intro b1;refine Q.rdn ?_))
     refine Q.rn ?_;(repeat (intro b1;refine Q.rn ?_))
     exact ⟨i + 1,⟨rfl,rfl,rfl,rfl,trivial⟩,Ent.refl _,⟨by omega,g3⟩,by omega⟩
    | true =>
     rw [hl] at g3
     simp only [Bool.not_false,Bool.not_true,Bool.false_eq_true,if_false] at g3
     refine Q.rn ?_;(repeat (intro b1;refine Q.rn ?_))
     refine Q.rdn ?_;(repeat (intro b1;refine Q.rdn ?_))
     refine Q.rn ?_;(repeat (intro b1;refine Q.rn ?_))
     exact ⟨(),⟨rfl,rfl,by rw [g3];rfl,rfl,trivial⟩,Ent.refl _,trivial⟩
   ·rw [show decide (i ≤ j1) = false by simpa using hi,Bool.false_and] at g3
    simp only [Bool.false_eq_true,if_false] at g3
    refine Q.rn ?_;(repeat (intro b1;refine Q.rn ?_))
    refine Q.dgo [true] [12] [] [0,1,2,3,4,5,6,7,8,9,10,11,12,13,14] ?_
    refine Q.rdn ?_;(repeat (intro b1;refine Q.rdn ?_))
    refine Q.rn ?_;(repeat (intro b1;refine Q.rn ?_))
    exact ⟨(),⟨rfl,rfl,by rw [g3];rfl,rfl,trivial⟩,Ent.refl _,trivial⟩
  rintro _ _
  refine Q.rn ?_;(repeat (intro b1;refine Q.rn ?_))
  refine swp_cutB (σ := Unit) (fun _ => [(0,SV bk n c),(1,.int .i64 a),(9,.int .i64 i0),(10,.int .i64 j0)]) (fun _ => AR bk e rs :: L) (fun _ => True) ?_ ?_
  ·refine swp_loop (σ := Nat) (fun s => [(0,SV bk n c),(1,.int .i64 a),(9,.int .i64 i0),(10,.int .i64 s)]) (fun s => AR bk e rs :: L)
    (fun s => s ≤ j1 ∧ Sort.scanDown (fun x => Sort.ltInt e[a]! x) e i0 s = j0) (fun s => s) (j1) ⟨rfl,rfl,rfl,rfl,trivial⟩ (Ent.refl _) ⟨Nat.le_refl _,hj0.symm⟩ ?_
   rintro j ⟨g1,g3⟩
   by_cases hi : i0 ≤ j
   ·obtain ⟨k,rfl⟩ : ∃ k,j = k + 1 := ⟨j - 1,by omega⟩
    rw [Sort.scanDown] at g3
    refine Q.rn ?_;(repeat (intro b1;refine Q.rn ?_))
    refine Q.dgo [true] [12] [] [0,1,2,3,4,5,6,7,8,9,10,11,12,13] ?_
    refine Q.rdn ?_;(repeat (intro b1;refine Q.rdn ?_))
    refine D.e rfl rfl rfl ?_
    refine S.guard rfl ?_
    refine S.cr rfl (Less_spec _ _ _) ?_
    rintro _ M ⟨rfl,rfl⟩
    rw [show decide (i0 ≤ k + 1) = true by simpa using hi,Bool.true_and] at g3
    cases hl : Sort.ltInt e[a]! e[k + 1]! with
    | true =>
     rw [hl] at g3
     simp only [Bool.not_false,Bool.not_true,if_true] at g3
     refine Q.rn ?_;(repeat (intro b1;refine Q.rn ?_))
     refine Q.rdn ?_;(repeat (intro b1;refine Q.rdn ?_))
     refine Q.rn ?_;(repeat (intro b1;refine Q.rn ?_))
     exact ⟨k,⟨rfl,rfl,rfl,rfl,trivial⟩,Ent.refl _,⟨by omega,g3⟩,by omega⟩
    | false =>
     rw [hl] at g3
     simp only [Bool.not_false,Bool.not_true,Bool.false_eq_true,if_false] at g3
     refine Q.rn ?_;(repeat (intro b1;refine Q.rn ?_))
     refine Q.rdn ?_;(repeat (intro b1;refine Q.rdn ?_))
     refine Q.rn ?_;(repeat (intro b1;refine Q.rn ?_))
     exact ⟨(),⟨rfl,rfl,rfl,by rw [← g3];rfl,trivial⟩,Ent.refl _,trivial⟩
   ·have g4 : j = j0 := by
     rw [← g3]
     cases j with
     | zero => rfl
     | succ j => rw [Sort.scanDown,show decide (i0 ≤ j + 1) = false by simpa using hi];simp
    refine Q.rn ?_;(repeat (intro b1;refine Q.rn ?_))
    refine Q.dgo [true] [12] [] [0,1,2,3,4,5,6,7,8,9,10,11,12,13] ?_
    refine Q.rdn ?_;(repeat (intro b1;refine Q.rdn ?_))
    refine Q.rn ?_;(repeat (intro b1;refine Q.rn ?_))
    exact ⟨(),⟨rfl,rfl,rfl,by rw [g4];rfl,trivial⟩,Ent.refl _,trivial⟩
  rintro _ _
  by_cases hgt : i0 > j0
  ·rw [if_pos hgt] at k5
   subst k5
   refine Q.rn ?_;(repeat (intro b1;refine Q.rn ?_))
   exact ⟨(),⟨rfl,trivial⟩,Ent.refl _,trivial⟩
  rw [if_neg hgt,dif_pos (by omega)] at k5
  refine Q.rn ?_;(repeat (intro b1;refine Q.rn ?_))
  refine Q.dgo [true] [13,15] [13] [0,1,2,3,4,5,6,7,8,9,10,11,12,13,14,15] ?_;(refine Q.rdn ?_;(repeat (intro b1;refine Q.rdn ?_)));refine Q.dc rfl rfl rfl rfl ?_;(refine Q.rn ?_;(repeat (intro b1;refine Q.rn ?_)));(refine Q.rdn ?_;(repeat (intro b1;refine Q.rdn ?_)));refine D.e rfl rfl rfl ?_;(refine Q.rn ?_;(repeat (intro b1;refine Q.rn ?_)));(refine Q.rdn ?_;(repeat (intro b1;refine Q.rdn ?_)));(refine Q.rn ?_;(repeat (intro b1;refine Q.rn ?_)))
  exact ⟨(i0 + 1,j0 - 1,Sort.swp e i0 j0),⟨rfl,rfl,rfl,rfl,trivial⟩,Ent.refl _,⟨by dsimp only;omega,by dsimp only;omega,by dsimp only;omega,by rw [swp_size];exact he,k5⟩,by dsimp only;omega⟩
 rintro _ _
 refine Q.rn ?_;(repeat (intro b1;refine Q.rn ?_))
 exact N.r1 (RV.tmp rfl RV.nil) (Ent.refl _) ⟨rfl,rfl⟩
theorem scanSorted_ge (d : Array Int) (b i : Nat) (h : i ≤ b) : i ≤ Sort.scanSorted Sort.ltInt d b i ∧ Sort.scanSorted Sort.ltInt d b i ≤ b := by
 induction hk : b - i using Nat.strongRecOn generalizing i with
 | _ k ih =>
  rw [Sort.scanSorted]
  split
  ·rename_i hc
   simp only [Bool.and_eq_true,decide_eq_true_eq] at hc
   have := ih _ (by omega) (i + 1) (by omega) rfl
   omega
  ·omega
theorem shiftDown_size : ∀ (j : Nat) (d : Array Int),(Sort.shiftDown Sort.ltInt j d).size = d.size
 | 0,d => rfl
 | j + 1,d => by
  rw [Sort.shiftDown]
  split
  ·rfl
  ·rw [shiftDown_size j,swp_size]
theorem shiftUp_size (b j : Nat) (d : Array Int) : (Sort.shiftUp Sort.ltInt b j d).size = d.size := by
 induction hk : b - j using Nat.strongRecOn generalizing j d with
 | _ k ih =>
  rw [Sort.shiftUp]
  split
  ·split
   ·rfl
   ·rw [ih _ (by omega) (j + 1) _ rfl,swp_size]
  ·rfl
set_option maxHeartbeats 20000000 in
theorem partialInsertionSort_spec (bk n c a b : Nat) (d : Array Int) (rs : List Value) (L : List HP) (hd : d.size = n) (ha : a < b) (hb : b ≤ n) (hn : n ≤ 17592186044416) :
  CallsS Tryz.prog 148 [SV bk n c,.int .i64 a,.int .i64 b] (AR bk d rs :: L)
   (fun v L' => v = .bool (Sort.partialInsertionSort Sort.ltInt d a b).2 ∧ L' = AR bk (Sort.partialInsertionSort Sort.ltInt d a b).1 rs :: L) := by
 refine CallsS.of_body Tryz.func148 rfl rfl rfl ?_
 refine Q.rn ?_;(repeat (intro b1;refine Q.rn ?_))
 refine swp_loop (σ := Nat × Nat × Array Int) (fun s => [(0,SV bk n c),(1,.int .i64 a),(2,.int .i64 b),(7,.int .i64 s.2.1),(8,.int .i64 ((5 - s.1 : Nat) : Int))]) (fun s => AR bk s.2.2 rs :: L)
  (fun s => s.1 ≤ 5 ∧ a + 1 ≤ s.2.1 ∧ s.2.1 ≤ b ∧ s.2.2.size = n ∧ Sort.partialIns Sort.ltInt a b s.1 s.2.1 s.2.2 = Sort.partialInsertionSort Sort.ltInt d a b) (fun s => s.1) (5,a + 1,d) ⟨rfl,rfl,rfl,rfl,rfl,trivial⟩ (Ent.refl _) ⟨Nat.le_refl _,by dsimp only;omega,by dsimp only;omega,hd,rfl⟩ ?_
 rintro ⟨st,i0,e⟩ ⟨h1,h2,h3,h4,h5⟩
 dsimp only at h1 h2 h3 h4 h5 ⊢
 cases st with
 | zero =>
  rw [Sort.partialIns] at h5
  rw [← h5]
  refine Q.rn ?_;(repeat (intro b1;refine Q.rn ?_))
  exact N.r1 (RV.tmp rfl RV.nil) (Ent.refl _) ⟨rfl,rfl⟩
 | succ st =>
 obtain ⟨k,hk⟩ : ∃ k,k = 5 - (st + 1) := ⟨_,rfl⟩
 rw [← hk]
 have hk5 : k < 5 := by omega
 rw [Sort.partialIns] at h5
 obtain ⟨i1,hi1⟩ : ∃ i1,i1 = Sort.scanSorted Sort.ltInt e b i0 := ⟨_,rfl⟩
 have bi := scanSorted_ge e b i0 h3
 rw [← hi1] at bi
 simp only [← hi1] at h5
 refine Q.rn ?_;(repeat (intro b1;refine Q.rn ?_))
 refine swp_cutB (σ := Unit) (fun _ => [(0,SV bk n c),(1,.int .i64 a),(2,.int .i64 b),(7,.int .i64 i1),(8,.int .i64 k)]) (fun _ => AR bk e rs :: L) (fun _ => True) ?_ ?_
 ·refine swp_loop (σ := Nat) (fun s => [(0,SV bk n c),(1,.int .i64 a),(2,.int .i64 b),(7,.int .i64 s),(8,.int .i64 k)]) (fun s => AR bk e rs :: L)
   (fun s => a + 1 ≤ s ∧ s ≤ b ∧ Sort.scanSorted Sort.ltInt e b s = i1) (fun s => b - s) i0 ⟨rfl,rfl,rfl,rfl,rfl,trivial⟩ (Ent.refl _) ⟨h2,h3,hi1.symm⟩ ?_
  rintro i ⟨g1,g2,g3⟩
  rw [Sort.scanSorted] at g3
  by_cases hi : i < b
  ·refine Q.rn ?_;(repeat (intro b1;refine Q.rn ?_))
   refine Q.dgo [true] [13] [] [0,1,2,3,4,5,6,7,8,9,10,11,12,13,14,15] ?_
   refine Q.rdn ?_;(repeat (intro b1;refine Q.rdn ?_))
   refine D.e rfl rfl rfl ?_
   refine S.guard rfl ?_
   refine S.cr rfl (Less_spec _ _ _) ?_
   rintro _ M ⟨rfl,rfl⟩
   rw [show decide (i < b) = true by simpa using hi,Bool.true_and] at g3
   cases hl : Sort.ltInt e[i]! e[i - 1]! with
   | false =>
    rw [hl] at g3
    simp only [Bool.not_false,if_true] at g3
    refine Q.rn ?_;(repeat (intro b1;refine Q.rn ?_))
    refine Q.rdn ?_;(repeat (intro b1;refine Q.rdn ?_))
    refine Q.rn ?_;(repeat (intro b1;refine Q.rn ?_))
    exact ⟨i + 1,⟨rfl,rfl,rfl,rfl,rfl,trivial⟩,Ent.refl _,⟨by omega,by omega,g3⟩,by omega⟩
   | true =>
    rw [hl] at g3
    simp only [Bool.not_true,Bool.false_eq_true,if_false] at g3
    refine Q.rn ?_;(repeat (intro b1;refine Q.rn ?_))
    refine Q.rdn ?_;(repeat (intro b1;refine Q.rdn ?_))
    refine Q.rn ?_;(repeat (intro b1;refine Q.rn ?_))
    exact ⟨(),⟨rfl,rfl,rfl,by rw [g3];rfl,rfl,trivial⟩,Ent.refl _,trivial⟩
  ·rw [show decide (i < b) = false by simpa using hi,Bool.false_and] at g3
   simp only [Bool.false_eq_true,if_false] at g3
   refine Q.rn ?_;(repeat (intro b1;refine Q.rn ?_))
   refine Q.dgo [true] [13] [] [0,1,2,3,4,5,6,7,8,9,10,11,12,13,14,15] ?_
   refine Q.rdn ?_;(repeat (intro b1;refine Q.rdn ?_))
   refine Q.rn ?_;(repeat (intro b1;refine Q.rn ?_))
   exact ⟨(),⟨rfl,rfl,rfl,by rw [g3];rfl,rfl,trivial⟩,Ent.refl _,trivial⟩
 rintro _ _
 by_cases hib : i1 = b
 ·rw [if_pos hib] at h5
  rw [← h5]
  refine Q.rn ?_;(repeat (intro b1;refine Q.rn ?_))
  exact N.r1 (RV.tmp rfl RV.nil) (Ent.refl _) ⟨rfl,rfl⟩
 rw [if_neg hib] at h5
 by_cases h50 : b - a < 50
 ·rw [if_pos h50] at h5
  rw [← h5]
  refine Q.rn ?_;(repeat (intro b1;refine Q.rn ?_))
  exact N.r1 (RV.tmp rfl RV.nil) (Ent.refl _) ⟨rfl,rfl⟩
 rw [if_neg h50] at h5
 refine Q.rn ?_;(repeat (intro b1;refine Q.rn ?_))
 refine Q.dgo [true] [15,17] [15] [0,1,2,3,4,5,6,7,8,9,10,11,12,13,14,15,16,17] ?_;(refine Q.rdn ?_;(repeat (intro b1;refine Q.rdn ?_)));refine Q.dc rfl rfl rfl rfl ?_;(refine Q.rn ?_;(repeat (intro b1;refine Q.rn ?_)));(refine Q.rdn ?_;(repeat (intro b1;refine Q.rdn ?_)));refine D.e rfl rfl rfl ?_;(refine Q.rn ?_;(repeat (intro b1;refine Q.rn ?_)));(refine Q.rdn ?_;(repeat (intro b1;refine Q.rdn ?_)));(refine Q.rn ?_;(repeat (intro b1;refine Q.rn ?_)))
 have hes : (Sort.swp e i1 (i1 - 1)).size = n := by rw [swp_size];exact h4
 obtain ⟨e1,he1⟩ : ∃ e1,e1 = (if i1 - a ≥ 2 then Sort.shiftDown Sort.ltInt (i1 - 1) (Sort.swp e i1 (i1 - 1)) else Sort.swp e i1 (i1 - 1)) := ⟨_,rfl⟩
 have he1s : e1.size = n := by rw [he1];split <;> first | (rw [shiftDown_size];exact hes) | exact hes
 rw [← he1] at h5
 refine swp_cutT (σ := Unit) (fun _ => [(0,SV bk n c),(1,.int .i64 a),(2,.int .i64 b),(7,.int .i64 i1),(8,.int .i64 k)]) (fun _ => AR bk e1 rs :: L) (fun _ => True) ?_ ?_
 ·by_cases h2a : i1 - a ≥ 2
  ·rw [if_pos h2a] at he1
   refine Q.rn ?_;(repeat (intro b1;refine Q.rn ?_))
   refine swp_loop (σ := Nat × Array Int) (fun s => [(0,SV bk n c),(1,.int .i64 a),(2,.int .i64 b),(7,.int .i64 i1),(8,.int .i64 k),(9,.int .i64 s.1)]) (fun s => AR bk s.2 rs :: L)
    (fun s => s.1 < b ∧ s.2.size = n ∧ Sort.shiftDown Sort.ltInt s.1 s.2 = e1) (fun s => s.1) (i1 - 1,Sort.swp e i1 (i1 - 1)) ⟨rfl,rfl,rfl,rfl,rfl,rfl,trivial⟩ (Ent.refl _) ⟨by dsimp only;omega,hes,he1.symm⟩ ?_
   rintro ⟨j,g⟩ ⟨g1,g2,g3⟩
   dsimp only at g1 g2 g3 ⊢
   cases j with
   | zero =>
    rw [Sort.shiftDown] at g3
    subst g3
    refine Q.rn ?_;(repeat (intro b1;refine Q.rn ?_))
    exact ⟨(),⟨rfl,rfl,rfl,rfl,rfl,trivial⟩,Ent.refl _,trivial⟩
   | succ j =>
    rw [Sort.shiftDown] at g3
    refine Q.rn ?_;(repeat (intro b1;refine Q.rn ?_))
    refine Q.dgo [true] [9] [] [0,1,2,3,4,5,6,7,8,9,10] ?_
    refine Q.rdn ?_;(repeat (intro b1;refine Q.rdn ?_))
    refine D.e rfl rfl rfl ?_
    refine S.cr rfl (Less_spec _ _ _) ?_
    rintro _ M ⟨rfl,rfl⟩
    cases hl : Sort.ltInt g[j + 1]! g[j]! with
    | false =>
     rw [hl] at g3
     simp only [Bool.not_false,if_true] at g3
     rw [show j + 1 - 1 = j from rfl,hl]
     subst g3
     refine Q.rn ?_;(repeat (intro b1;refine Q.rn ?_))
     refine Q.rdn ?_;(repeat (intro b1;refine Q.rdn ?_))
     refine Q.rn ?_;(repeat (intro b1;refine Q.rn ?_))
     exact ⟨(),⟨rfl,rfl,rfl,rfl,rfl,trivial⟩,Ent.refl _,trivial⟩
    | true =>
     rw [hl] at g3
     simp only [Bool.not_true,Bool.false_eq_true,if_false] at g3
     rw [show j + 1 - 1 = j from rfl,hl]
     refine Q.rn ?_;(repeat (intro b1;refine Q.rn ?_))
     refine Q.rdn ?_;(repeat (intro b1;refine Q.rdn ?_))
     refine Q.rn ?_;(repeat (intro b1;refine Q.rn ?_))
     refine Q.dgo [true] [15,17] [15] [0,1,2,3,4,5,6,7,8,9,10,11,12,13,14,15,16,17] ?_;(refine Q.rdn ?_;(repeat (intro b1;refine Q.rdn ?_)));refine Q.dc rfl rfl rfl rfl ?_;(refine Q.rn ?_;(repeat (intro b1;refine Q.rn ?_)));(refine Q.rdn ?_;(repeat (intro b1;refine Q.rdn ?_)));refine D.e rfl rfl rfl ?_;(refine Q.rn ?_;(repeat (intro b1;refine Q.rn ?_)));(refine Q.rdn ?_;(repeat (intro b1;refine Q.rdn ?_)));(refine Q.rn ?_;(repeat (intro b1;refine Q.rn ?_)))
     exact ⟨(j,Sort.swp g (j + 1) j),⟨rfl,rfl,rfl,rfl,rfl,rfl,trivial⟩,Ent.refl _,⟨by dsimp only;omega,by rw [swp_size];exact g2,g3⟩,by dsimp only;omega⟩
  ·rw [if_neg h2a] at he1
   subst he1
   refine Q.rn ?_;(repeat (intro b1;refine Q.rn ?_))
   first | refine N.tn ?_ | skip
   exact ⟨(),⟨rfl,rfl,rfl,rfl,rfl,trivial⟩,Ent.refl _,trivial⟩
 rintro _ _
 clear he1 hes
 obtain ⟨e2,he2⟩ : ∃ e2,e2 = (if b - i1 ≥ 2 then Sort.shiftUp Sort.ltInt b (i1 + 1) e1 else e1) := ⟨_,rfl⟩
 have he2s : e2.size = n := by rw [he2];split <;> first | (rw [shiftUp_size];exact he1s) | exact he1s
 rw [← he2] at h5
 refine Q.rn ?_;(repeat (intro b1;refine Q.rn ?_))
 refine swp_cutB (σ := Unit) (fun _ => [(0,SV bk n c),(1,.int .i64 a),(2,.int .i64 b),(7,.int .i64 i1),(8,.int .i64 k)]) (fun _ => AR bk e2 rs :: L) (fun _ => True) ?_ ?_
 ·by_cases h2b : b - i1 ≥ 2
  ·rw [if_pos h2b] at he2
   refine Q.rn ?_;(repeat (intro b1;refine Q.rn ?_))
   refine swp_loop (σ := Nat × Array Int) (fun s => [(0,SV bk n c),(1,.int .i64 a),(2,.int .i64 b),(7,.int .i64 i1),(8,.int .i64 k),(10,.int .i64 s.1)]) (fun s => AR bk s.2 rs :: L)
    (fun s => 1 ≤ s.1 ∧ s.1 ≤ b ∧ s.2.size = n ∧ Sort.shiftUp Sort.ltInt b s.1 s.2 = e2) (fun s => b - s.1) (i1 + 1,e1) ⟨rfl,rfl,rfl,rfl,rfl,rfl,trivial⟩ (Ent.refl _) ⟨by dsimp only;omega,by dsimp only;omega,he1s,he2.symm⟩ ?_
   rintro ⟨j,g⟩ ⟨g0,g1,g2,g3⟩
   dsimp only at g0 g1 g2 g3 ⊢
   rw [Sort.shiftUp] at g3
   by_cases hj : j < b
   ·rw [if_pos hj] at g3
    refine Q.rn ?_;(repeat (intro b1;refine Q.rn ?_))
    refine Q.dgo [true] [9] [] [0,1,2,3,4,5,6,7,8,9,10] ?_
    refine Q.rdn ?_;(repeat (intro b1;refine Q.rdn ?_))
    refine D.e rfl rfl rfl ?_
    refine S.cr rfl (Less_spec _ _ _) ?_
    rintro _ M ⟨rfl,rfl⟩
    cases hl : Sort.ltInt g[j]! g[j - 1]! with
    | false =>
     rw [hl] at g3
     simp only [Bool.not_false,if_true] at g3
     subst g3
     refine Q.rn ?_;(repeat (intro b1;refine Q.rn ?_))
     refine Q.rdn ?_;(repeat (intro b1;refine Q.rdn ?_))
     refine Q.rn ?_;(repeat (intro b1;refine Q.rn ?_))
     exact ⟨(),⟨rfl,rfl,rfl,rfl,rfl,trivial⟩,Ent.refl _,trivial⟩
    | true =>
     rw [hl] at g3
     simp only [Bool.not_true,Bool.false_eq_true,if_false] at g3
     refine Q.rn ?_;(repeat (intro b1;refine Q.rn ?_))
     refine Q.rdn ?_;(repeat (intro b1;refine Q.rdn ?_))
     refine Q.rn ?_;(repeat (intro b1;refine Q.rn ?_))
     refine Q.dgo [true] [15,17] [15] [0,1,2,3,4,5,6,7,8,9,10,11,12,13,14,15,16,17] ?_;(refine Q.rdn ?_;(repeat (intro b1;refine Q.rdn ?_)));refine Q.dc rfl rfl rfl rfl ?_;(refine Q.rn ?_;(repeat (intro b1;refine Q.rn ?_)));(refine Q.rdn ?_;(repeat (intro b1;refine Q.rdn ?_)));refine D.e rfl rfl rfl ?_;(refine Q.rn ?_;(repeat (intro b1;refine Q.rn ?_)));(refine Q.rdn ?_;(repeat (intro b1;refine Q.rdn ?_)));(refine Q.rn ?_;(repeat (intro b1;refine Q.rn ?_)))
     exact ⟨(j + 1,Sort.swp g j (j - 1)),⟨rfl,rfl,rfl,rfl,rfl,rfl,trivial⟩,Ent.refl _,⟨by dsimp only;omega,by dsimp only;omega,by rw [swp_size];exact g2,g3⟩,by dsimp only;omega⟩
   ·rw [if_neg hj] at g3
    subst g3
    refine Q.rn ?_;(repeat (intro b1;refine Q.rn ?_))
    exact ⟨(),⟨rfl,rfl,rfl,rfl,rfl,trivial⟩,Ent.refl _,trivial⟩
  ·rw [if_neg h2b] at he2
   subst he2
   refine Q.rn ?_;(repeat (intro b1;refine Q.rn ?_))
   first | refine N.tn ?_ | skip
   exact ⟨(),⟨rfl,rfl,rfl,rfl,rfl,trivial⟩,Ent.refl _,trivial⟩
 rintro _ _
 refine Q.rn ?_;(repeat (intro b1;refine Q.rn ?_))
 exact ⟨(st,i1,e2),⟨rfl,rfl,rfl,rfl,congrArg some (congrArg (Value.int .i64) (by dsimp only;omega)),trivial⟩,Ent.refl _,⟨by dsimp only;omega,by dsimp only;omega,bi.2,he2s,h5⟩,by dsimp only;omega⟩
abbrev SW (p s : Nat) : HP := pt p (cl [.int .i64 s] 3)
set_option maxHeartbeats 4000000 in
theorem order2_spec (bk n c a b p sw : Nat) (d : Array Int) (rs : List Value) (L : List HP) (hd : d.size = n) (ha : a < n) (hb : b < n) (hn : n ≤ 17592186044416) (hs : sw ≤ 1000000) :
  CallsS Tryz.prog 176 [SV bk n c,.int .i64 a,.int .i64 b,.pointer (some ⟨p,0,none⟩)] (AR bk d rs :: SW p sw :: L)
   (fun v L' => v = .tuple #[.int .i64 (Sort.order2 Sort.ltInt d a b sw).1,.int .i64 (Sort.order2 Sort.ltInt d a b sw).2.1] ∧ L' = AR bk d rs :: SW p (Sort.order2 Sort.ltInt d a b sw).2.2 :: L) := by
 refine CallsS.of_body Tryz.func176 rfl rfl rfl ?_
 refine Q.rn ?_;(repeat (intro b1;refine Q.rn ?_))
 refine Q.dgo [true,false] [8] [] [0,1,2,3,4,5,6,7,8] ?_
 refine Q.rdn ?_;(repeat (intro b1;refine Q.rdn ?_))
 refine D.e rfl rfl rfl ?_
 refine S.cr rfl (Less_spec _ _ _) ?_
 rintro _ M ⟨rfl,rfl⟩
 unfold Sort.order2
 cases hl : Sort.ltInt d[b]! d[a]! with
 | false =>
  refine Q.rn ?_;(repeat (intro b1;refine Q.rn ?_))
  refine Q.rdn ?_;(repeat (intro b1;refine Q.rdn ?_))
  refine Q.rn ?_;(repeat (intro b1;refine Q.rn ?_))
  exact N.r2 (RV.tmp rfl (RV.tmp rfl RV.nil)) (Ent.refl _) ⟨rfl,rfl⟩
 | true =>
  refine Q.rn ?_;(repeat (intro b1;refine Q.rn ?_))
  refine Q.rdn ?_;(repeat (intro b1;refine Q.rdn ?_))
  refine Q.rn ?_;(repeat (intro b1;refine Q.rn ?_))
  exact N.r2 (RV.tmp rfl (RV.tmp rfl RV.nil)) (Ent.refl _) ⟨rfl,rfl⟩
theorem order2_in {n : Nat} {d : Array Int} {a b sw : Nat} (ha : a < n) (hb : b < n) : (Sort.order2 Sort.ltInt d a b sw).1 < n ∧ (Sort.order2 Sort.ltInt d a b sw).2.1 < n ∧ (Sort.order2 Sort.ltInt d a b sw).2.2 ≤ sw + 1 := by
 unfold Sort.order2;split <;> simp_all <;> omega
set_option maxHeartbeats 4000000 in
theorem median_spec (bk n c a b e p sw : Nat) (d : Array Int) (rs : List Value) (L : List HP) (hd : d.size = n) (ha : a < n) (hb : b < n) (he : e < n) (hn : n ≤ 17592186044416) (hs : sw ≤ 1000) :
  CallsS Tryz.prog 170 [SV bk n c,.int .i64 a,.int .i64 b,.int .i64 e,.pointer (some ⟨p,0,none⟩)] (AR bk d rs :: SW p sw :: L)
   (fun v L' => v = .int .i64 (Sort.median Sort.ltInt d a b e sw).1 ∧ L' = AR bk d rs :: SW p (Sort.median Sort.ltInt d a b e sw).2 :: L) := by
 refine CallsS.of_body Tryz.func170 rfl rfl rfl ?_
 refine Q.rn ?_;(repeat (intro b1;refine Q.rn ?_))
 refine S.cr rfl (order2_spec bk n c a b p sw d rs L hd ha hb hn (by omega)) ?_
 rintro _ _ ⟨rfl,rfl⟩
 have r1 := order2_in (d := d) (sw := sw) ha hb
 unfold Sort.median
 generalize Sort.order2 Sort.ltInt d a b sw = o1 at r1
 refine Q.rn ?_;(repeat (intro b1;refine Q.rn ?_))
 refine S.cr rfl (order2_spec bk n c o1.2.1 e p o1.2.2 d rs L hd r1.2.1 he hn (by omega)) ?_
 rintro _ _ ⟨rfl,rfl⟩
 have r2 := order2_in (d := d) (sw := o1.2.2) r1.2.1 he
 dsimp only
 generalize Sort.order2 Sort.ltInt d o1.2.1 e o1.2.2 = o2 at r2
 refine Q.rn ?_;(repeat (intro b1;refine Q.rn ?_))
 refine S.cr rfl (order2_spec bk n c o1.1 o2.1 p o2.2.2 d rs L hd r1.1 r2.1 hn (by omega)) ?_
 rintro _ _ ⟨rfl,rfl⟩
 refine Q.rn ?_;(repeat (intro b1;refine Q.rn ?_))
 exact N.r1 (RV.tmp rfl RV.nil) (Ent.refl _) ⟨rfl,rfl⟩
theorem median_in {n : Nat} {d : Array Int} {a b e sw : Nat} (ha : a < n) (hb : b < n) (he : e < n) : (Sort.median Sort.ltInt d a b e sw).1 < n ∧ (Sort.median Sort.ltInt d a b e sw).2 ≤ sw + 3 := by
 have r1 := order2_in (d := d) (sw := sw) ha hb
 unfold Sort.median
 generalize Sort.order2 Sort.ltInt d a b sw = o1 at r1
 have r2 := order2_in (d := d) (sw := o1.2.2) r1.2.1 he
 dsimp only
 generalize Sort.order2 Sort.ltInt d o1.2.1 e o1.2.2 = o2 at r2
 have r3 := order2_in (d := d) (sw := o2.2.2) r1.1 r2.1
 omega
set_option maxHeartbeats 4000000 in
theorem medianAdjacent_spec (bk n c a p sw : Nat) (d : Array Int) (rs : List Value) (L : List HP) (hd : d.size = n) (h1 : 1 ≤ a) (ha : a + 1 < n) (hn : n ≤ 17592186044416) (hs : sw ≤ 1000) :
  CallsS Tryz.prog 169 [SV bk n c,.int .i64 a,.pointer (some ⟨p,0,none⟩)] (AR bk d rs :: SW p sw :: L)
   (fun v L' => v = .int .i64 (Sort.medianAdjacent Sort.ltInt d a sw).1 ∧ L' = AR bk d rs :: SW p (Sort.medianAdjacent Sort.ltInt d a sw).2 :: L) := by
 refine CallsS.of_body Tryz.func169 rfl rfl rfl ?_
 refine Q.rn ?_;(repeat (intro b1;refine Q.rn ?_))
 refine S.cr rfl (median_spec bk n c (a - 1) a (a + 1) p sw d rs L hd (by omega) (by omega) (by omega) hn hs) ?_
 rintro _ _ ⟨rfl,rfl⟩
 refine Q.rn ?_;(repeat (intro b1;refine Q.rn ?_))
 exact N.r1 (RV.tmp rfl RV.nil) (Ent.refl _) ⟨rfl,rfl⟩
def hintN : Sort.Hint → Int
 | .unknown => 0
 | .increasing => 1
 | .decreasing => 2
set_option maxHeartbeats 8000000 in
theorem choosePivot_spec (bk n c a b : Nat) (d : Array Int) (rs : List Value) (L : List HP) (hd : d.size = n) (ha : a < b) (hb : b ≤ n) (hn : n ≤ 17592186044416) :
  CallsS Tryz.prog 146 [SV bk n c,.int .i64 a,.int .i64 b] (AR bk d rs :: L)
   (fun v L' => v = .tuple #[.int .i64 (Sort.choosePivot Sort.ltInt d a b).1,.int .i64 (hintN (Sort.choosePivot Sort.ltInt d a b).2)] ∧ L' = AR bk d rs :: L) := by
 refine CallsS.of_body Tryz.func146 rfl rfl rfl ?_
 refine Q.rn ?_;(repeat (intro b1;refine Q.rn ?_))
 obtain ⟨p,hp⟩ : ∃ p,p = b1 := ⟨_,rfl⟩
 rw [← hp]
 obtain ⟨r,hr⟩ : ∃ r : Nat × Nat,r = (if b - a ≥ 8 then if b - a ≥ 50 then
   Sort.median Sort.ltInt d (Sort.medianAdjacent Sort.ltInt d (a + (b - a) / 4 * 1) 0).1 (Sort.medianAdjacent Sort.ltInt d (a + (b - a) / 4 * 2) (Sort.medianAdjacent Sort.ltInt d (a + (b - a) / 4 * 1) 0).2).1
    (Sort.medianAdjacent Sort.ltInt d (a + (b - a) / 4 * 3) (Sort.medianAdjacent Sort.ltInt d (a + (b - a) / 4 * 2) (Sort.medianAdjacent Sort.ltInt d (a + (b - a) / 4 * 1) 0).2).2).1
    (Sort.medianAdjacent Sort.ltInt d (a + (b - a) / 4 * 3) (Sort.medianAdjacent Sort.ltInt d (a + (b - a) / 4 * 2) (Sort.medianAdjacent Sort.ltInt d (a + (b - a) / 4 * 1) 0).2).2).2
   else Sort.median Sort.ltInt d (a + (b - a) / 4 * 1) (a + (b - a) / 4 * 2) (a + (b - a) / 4 * 3) 0 else (a + (b - a) / 4 * 2,0)) := ⟨_,rfl⟩
 have hc : Sort.choosePivot Sort.ltInt d a b = (r.1,if r.2 = 0 then .increasing else if r.2 = 12 then .decreasing else .unknown) := by rw [hr];rfl
 rw [hc]
 clear hc
 refine swp_ent (Ent.perm (.swap _ _ _)) ?_
 refine swp_cutT (σ := Unit) (fun _ => [(11,.int .i64 r.1),(9,.pointer (some ⟨p,0,none⟩))]) (fun _ => AR bk d rs :: SW p r.2 :: L) (fun _ => True) ?_ ?_
 ·by_cases h8 : b - a ≥ 8
  ·rw [if_pos h8] at hr
   by_cases h50 : b - a ≥ 50
   ·rw [if_pos h50] at hr
    refine Q.rn ?_;(repeat (intro b1;refine Q.rn ?_))
    refine S.cr rfl (medianAdjacent_spec bk n c (a + (b - a) / 4 * 1) p 0 d rs L hd (by omega) (by omega) hn (by omega)) ?_
    rintro _ _ ⟨rfl,rfl⟩
    have q1 : (Sort.medianAdjacent Sort.ltInt d (a + (b - a) / 4 * 1) 0).1 < n ∧ (Sort.medianAdjacent Sort.ltInt d (a + (b - a) / 4 * 1) 0).2 ≤ 0 + 3 := median_in (by omega) (by omega) (by omega)
    generalize Sort.medianAdjacent Sort.ltInt d (a + (b - a) / 4 * 1) 0 = ri at q1 hr
    refine Q.rn ?_;(repeat (intro b1;refine Q.rn ?_))
    refine S.cr rfl (medianAdjacent_spec bk n c (a + (b - a) / 4 * 2) p ri.2 d rs L hd (by omega) (by omega) hn (by omega)) ?_
    rintro _ _ ⟨rfl,rfl⟩
    have q2 : (Sort.medianAdjacent Sort.ltInt d (a + (b - a) / 4 * 2) ri.2).1 < n ∧ (Sort.medianAdjacent Sort.ltInt d (a + (b - a) / 4 * 2) ri.2).2 ≤ ri.2 + 3 := median_in (by omega) (by omega) (by omega)
    generalize Sort.medianAdjacent Sort.ltInt d (a + (b - a) / 4 * 2) ri.2 = rj at q2 hr
    refine Q.rn ?_;(repeat (intro b1;refine Q.rn ?_))
    refine S.cr rfl (medianAdjacent_spec bk n c (a + (b - a) / 4 * 3) p rj.2 d rs L hd (by omega) (by omega) hn (by omega)) ?_
    rintro _ _ ⟨rfl,rfl⟩
    have q3 : (Sort.medianAdjacent Sort.ltInt d (a + (b - a) / 4 * 3) rj.2).1 < n ∧ (Sort.medianAdjacent Sort.ltInt d (a + (b - a) / 4 * 3) rj.2).2 ≤ rj.2 + 3 := median_in (by omega) (by omega) (by omega)
    generalize Sort.medianAdjacent Sort.ltInt d (a + (b - a) / 4 * 3) rj.2 = rk at q3 hr
    refine Q.rn ?_;(repeat (intro b1;refine Q.rn ?_))
    refine S.cr rfl (median_spec bk n c ri.1 rj.1 rk.1 p rk.2 d rs L hd q1.1 q2.1 q3.1 hn (by omega)) ?_
    rintro _ _ ⟨rfl,rfl⟩
    rw [← hr]
    refine Q.rn ?_;(repeat (intro b1;refine Q.rn ?_))
    first | refine N.tn ?_ | skip
    exact ⟨(),⟨rfl,rfl,trivial⟩,Ent.refl _,trivial⟩
   ·rw [if_neg h50] at hr
    refine Q.rn ?_;(repeat (intro b1;refine Q.rn ?_))
    refine S.cr rfl (median_spec bk n c (a + (b - a) / 4 * 1) (a + (b - a) / 4 * 2) (a + (b - a) / 4 * 3) p 0 d rs L hd (by omega) (by omega) (by omega) hn (by omega)) ?_
    rintro _ _ ⟨rfl,rfl⟩
    rw [← hr]
    refine Q.rn ?_;(repeat (intro b1;refine Q.rn ?_))
    first | refine N.tn ?_ | skip
    exact ⟨(),⟨rfl,rfl,trivial⟩,Ent.refl _,trivial⟩
  ·rw [if_neg h8] at hr
   subst hr
   refine Q.rn ?_;(repeat (intro b1;refine Q.rn ?_))
   first | refine N.tn ?_ | skip
   exact ⟨(),⟨rfl,rfl,trivial⟩,Ent.refl _,trivial⟩
 rintro _ _
 clear hr
 obtain ⟨m,w⟩ := r
 by_cases h0 : w = 0
 ·subst h0
  refine Q.rn ?_;(repeat (intro b1;refine Q.rn ?_))
  exact N.r2 (RV.tmp rfl (RV.tmp rfl RV.nil)) (Ent.cons (Ent.drop (Ent.refl _))) ⟨rfl,rfl⟩
 by_cases h12 : w = 12
 ·subst h12
  refine Q.rn ?_;(repeat (intro b1;refine Q.rn ?_))
  exact N.r2 (RV.tmp rfl (RV.tmp rfl RV.nil)) (Ent.cons (Ent.drop (Ent.refl _))) ⟨rfl,rfl⟩
 refine Q.rn ?_;(repeat (intro b1;refine Q.rn ?_))
 exact N.r2 (RV.tmp rfl (RV.tmp rfl RV.nil)) (Ent.cons (Ent.drop (Ent.refl _))) ⟨by simp only [if_neg h0,if_neg h12];rfl,rfl⟩
set_option maxHeartbeats 4000000 in
theorem Len64_spec (x : Nat) (hx : x < 18446744073709551616) (L : List HP) : CallsS Tryz.prog 153 [.int .u64 x] L (fun v L' => v = .int .i64 (Sort.bitsLen x) ∧ L' = L) := by
 refine CallsS.of_body Tryz.func153 rfl rfl rfl ?_
 have h1 : x < 18446744073709551616 := hx
 have h2 : 0 ≤ 0 := Nat.le_refl _
 have h3 : 0 + Sort.bitsLen x = Sort.bitsLen x := by simp
 obtain ⟨y,hy⟩ : ∃ y,y = x := ⟨_,rfl⟩
 obtain ⟨m,hm⟩ : ∃ m,m = 0 := ⟨_,rfl⟩
 rw [← hy] at h1 ⊢
 rw [← hm] at h2
 have h3 : m + Sort.bitsLen y = Sort.bitsLen y := by omega
 refine Q.rn ?_;(repeat (intro b1;refine Q.rn ?_))
 refine swp_cutT (σ := Nat × Nat) (fun s => [(0,.int .u64 s.1),(2,.int .i64 s.2)]) (fun _ => L) (fun s => s.1 < 4294967296 ∧ s.2 ≤ 32 ∧ s.2 + Sort.bitsLen s.1 = Sort.bitsLen y) ?_ ?_
 ·by_cases h : 4294967296 ≤ y
  ·have hdv : y / 2 ^ 32 < 4294967296 := by omega
   have hbl : Sort.bitsLen y = 32 + Sort.bitsLen (y / 2 ^ 32) := bitsLen_shift (by omega)
   refine Q.rn ?_;(repeat (intro b1;refine Q.rn ?_))
   refine S.y (Y.shr (a := y) (b := 32) rfl rfl (by decide)) ?_
   generalize y / 2 ^ 32 = z at hdv hbl
   refine Q.rn ?_;(repeat (intro b1;refine Q.rn ?_))
   first | refine N.tn ?_ | skip
   exact ⟨(z,32),⟨rfl,rfl,trivial⟩,Ent.refl _,hdv,by dsimp only;omega,by dsimp only;omega⟩
  ·refine Q.rn ?_;(repeat (intro b1;refine Q.rn ?_))
   first | refine N.tn ?_ | skip
   exact ⟨(y,0),⟨rfl,rfl,trivial⟩,Ent.refl _,by dsimp only;omega,by dsimp only;omega,by simp⟩
 obtain ⟨x,hx2⟩ : ∃ x,x = y := ⟨_,rfl⟩
 rw [← hx2]
 clear h1 h2 h3 hy hm hx2 hx
 rintro ⟨y,m⟩ ⟨h1,h2,h3⟩
 dsimp only at h1 h2 h3 ⊢
 refine Q.rn ?_;(repeat (intro b1;refine Q.rn ?_))
 refine swp_cutT (σ := Nat × Nat) (fun s => [(0,.int .u64 s.1),(2,.int .i64 s.2)]) (fun _ => L) (fun s => s.1 < 65536 ∧ s.2 ≤ 48 ∧ s.2 + Sort.bitsLen s.1 = Sort.bitsLen x) ?_ ?_
 ·by_cases h : 65536 ≤ y
  ·have hdv : y / 2 ^ 16 < 65536 := by omega
   have hbl : Sort.bitsLen y = 16 + Sort.bitsLen (y / 2 ^ 16) := bitsLen_shift (by omega)
   refine Q.rn ?_;(repeat (intro b1;refine Q.rn ?_))
   refine S.y (Y.shr (a := y) (b := 16) rfl rfl (by decide)) ?_
   generalize y / 2 ^ 16 = z at hdv hbl
   refine Q.rn ?_;(repeat (intro b1;refine Q.rn ?_))
   first | refine N.tn ?_ | skip
   exact ⟨(z,m + 16),⟨rfl,rfl,trivial⟩,Ent.refl _,hdv,by dsimp only;omega,by dsimp only;omega⟩
  ·refine Q.rn ?_;(repeat (intro b1;refine Q.rn ?_))
   first | refine N.tn ?_ | skip
   exact ⟨(y,m),⟨rfl,rfl,trivial⟩,Ent.refl _,by dsimp only;omega,by dsimp only;omega,h3⟩
 clear h1 h2 h3
 rintro ⟨y,m⟩ ⟨h1,h2,h3⟩
 dsimp only at h1 h2 h3 ⊢
 refine Q.rn ?_;(repeat (intro b1;refine Q.rn ?_))
 refine swp_cutT (σ := Nat × Nat) (fun s => [(0,.int .u64 s.1),(2,.int .i64 s.2)]) (fun _ => L) (fun s => s.1 < 256 ∧ s.2 ≤ 56 ∧ s.2 + Sort.bitsLen s.1 = Sort.bitsLen x) ?_ ?_
 ·by_cases h : 256 ≤ y
  ·have hdv : y / 2 ^ 8 < 256 := by omega
   have hbl : Sort.bitsLen y = 8 + Sort.bitsLen (y / 2 ^ 8) := bitsLen_shift (by omega)
   refine Q.rn ?_;(repeat (intro b1;refine Q.rn ?_))
   refine S.y (Y.shr (a := y) (b := 8) rfl rfl (by decide)) ?_
   generalize y / 2 ^ 8 = z at hdv hbl
   refine Q.rn ?_;(repeat (intro b1;refine Q.rn ?_))
   first | refine N.tn ?_ | skip
   exact ⟨(z,m + 8),⟨rfl,rfl,trivial⟩,Ent.refl _,hdv,by dsimp only;omega,by dsimp only;omega⟩
  ·refine Q.rn ?_;(repeat (intro b1;refine Q.rn ?_))
   first | refine N.tn ?_ | skip
   exact ⟨(y,m),⟨rfl,rfl,trivial⟩,Ent.refl _,by dsimp only;omega,by dsimp only;omega,h3⟩
 clear h1 h2 h3
 rintro ⟨y,m⟩ ⟨h1,h2,h3⟩
 dsimp only at h1 h2 h3 ⊢
 refine Q.rn ?_;(repeat (intro b1;refine Q.rn ?_))
 have hy8 : IntKind.u8.wrap (y : Int) = (y : Int) := wrap_u8 (by omega) (by omega)
 refine S.y (Y.cvi rfl) ?_
 rw [hy8]
 have hb8 : Sort.bitsLen y ≤ 8 := by
  have : ∀ y : Nat,y < 256 → Sort.bitsLen y ≤ 8 := by decide +kernel
  exact this y h1
 refine S.y (Y.idx (i := y) (b := UInt8.ofNat (Sort.bitsLen y)) rfl rfl (by clear h2 h3 hy8 hb8 m;revert y;decide +kernel)) ?_
 have e8 : (UInt8.ofNat (Sort.bitsLen y)).toNat = Sort.bitsLen y := by simp;omega
 rw [e8]
 refine S.y (Y.cvi rfl) ?_
 rw [wrap_i64 (by omega) (by omega)]
 refine Q.rn ?_;(repeat (intro b1;refine Q.rn ?_))
 exact N.r1 (RV.tmp rfl RV.nil) (Ent.refl _) ⟨congrArg (Value.int .i64) (by omega),rfl⟩
theorem Len_spec (x : Nat) (hx : x < 18446744073709551616) (L : List HP) : CallsS Tryz.prog 130 [.int .u64 x] L (fun v L' => v = .int .i64 (Sort.bitsLen x) ∧ L' = L) := by
 refine CallsS.of_body Tryz.func130 rfl rfl rfl ?_
 refine Q.rn ?_;(repeat (intro b1;refine Q.rn ?_))
 refine S.cr rfl (Len64_spec x hx L) ?_
 rintro _ _ ⟨rfl,rfl⟩
 refine Q.rn ?_;(repeat (intro b1;refine Q.rn ?_))
 exact N.r1 (RV.tmp rfl RV.nil) (Ent.refl _) ⟨rfl,rfl⟩
theorem npow_spec (x : Nat) (hx : x ≤ 17592186044416) (L : List HP) : CallsS Tryz.prog 167 [.int .i64 x] L (fun v L' => v = .int .u64 ((1 <<< Sort.bitsLen x : Nat) : Int) ∧ L' = L) := by
 have hl : Sort.bitsLen x ≤ 45 := (Sort.bitsLen_le_iff x 45).2 (by omega)
 have hp : 2 ^ Sort.bitsLen x ≤ 2 ^ 45 := Nat.pow_le_pow_right (by omega) hl
 refine CallsS.of_body Tryz.func167 rfl rfl rfl ?_
 refine Q.rn ?_;(repeat (intro b1;refine Q.rn ?_))
 refine S.y (Y.cvi rfl) ?_
 rw [wrap_u64 (by omega) (by omega)]
 refine S.cr rfl (Len_spec x (by omega) L) ?_
 rintro _ _ ⟨rfl,rfl⟩
 refine S.y (Y.shl (a := 1) (b := Sort.bitsLen x) rfl rfl (Nat.le_trans hl (by decide))) ?_
 rw [show 1 * 2 ^ Sort.bitsLen x = 1 <<< Sort.bitsLen x by rw [Nat.one_shiftLeft,Nat.one_mul],wrap_u64 (Int.natCast_nonneg _) (by rw [Nat.one_shiftLeft];generalize 2 ^ Sort.bitsLen x = q at hp;omega)]
 refine Q.rn ?_;(repeat (intro b1;refine Q.rn ?_))
 exact N.r1 (RV.tmp rfl RV.nil) (Ent.refl _) ⟨rfl,rfl⟩
abbrev RN (p : Nat) (r : UInt64) : HP := pt p (cl [.int .u64 (r.toNat : Int)] 233)
set_option maxHeartbeats 4000000 in
theorem Next_spec (p : Nat) (r : UInt64) (L : List HP) : CallsS Tryz.prog 168 [.pointer (some ⟨p,0,none⟩)] (RN p r :: L) (fun v L' => v = .int .u64 ((Sort.xorNext r).toNat : Int) ∧ L' = RN p (Sort.xorNext r) :: L) := by
 refine CallsS.of_body Tryz.func168 rfl rfl rfl ?_
 refine Q.rn ?_;(repeat (intro b1;refine Q.rn ?_))
 refine Q.dgo [true] [9] [9] [0,1,2,3,4,5,6,7,8,9] ?_
 (refine Q.rdn ?_;(repeat (intro b1;refine Q.rdn ?_)))
 refine D.yp rfl rfl rfl (Y.shl (a := _) (b := 13) rfl rfl (by decide)) ?_
 rw [shl64 _ 13 (by decide)]
 refine D.yp rfl rfl rfl (Y.xor rfl rfl) ?_
 rw [xor64]
 (refine Q.rdn ?_;(repeat (intro b1;refine Q.rdn ?_)))
 refine Q.dc rfl rfl rfl rfl ?_
 (refine Q.rn ?_;(repeat (intro b1;refine Q.rn ?_)))
 (refine Q.rdn ?_;(repeat (intro b1;refine Q.rdn ?_)))
 (refine Q.rn ?_;(repeat (intro b1;refine Q.rn ?_)))
 refine Q.dgo [true] [9] [9] [0,1,2,3,4,5,6,7,8,9] ?_
 (refine Q.rdn ?_;(repeat (intro b1;refine Q.rdn ?_)))
 refine D.yp rfl rfl rfl (Y.shr (a := _) (b := 7) rfl rfl (by decide)) ?_
 rw [shr64 _ 7 (by decide)]
 refine D.yp rfl rfl rfl (Y.xor rfl rfl) ?_
 rw [xor64]
 (refine Q.rdn ?_;(repeat (intro b1;refine Q.rdn ?_)))
 refine Q.dc rfl rfl rfl rfl ?_
 (refine Q.rn ?_;(repeat (intro b1;refine Q.rn ?_)))
 (refine Q.rdn ?_;(repeat (intro b1;refine Q.rdn ?_)))
 (refine Q.rn ?_;(repeat (intro b1;refine Q.rn ?_)))
 refine Q.dgo [true] [9] [9] [0,1,2,3,4,5,6,7,8,9] ?_
 (refine Q.rdn ?_;(repeat (intro b1;refine Q.rdn ?_)))
 refine D.yp rfl rfl rfl (Y.shl (a := _) (b := 17) rfl rfl (by decide)) ?_
 rw [shl64 _ 17 (by decide)]
 refine D.yp rfl rfl rfl (Y.xor rfl rfl) ?_
 rw [xor64]
 (refine Q.rdn ?_;(repeat (intro b1;refine Q.rdn ?_)))
 refine Q.dc rfl rfl rfl rfl ?_
 (refine Q.rn ?_;(repeat (intro b1;refine Q.rn ?_)))
 (refine Q.rdn ?_;(repeat (intro b1;refine Q.rdn ?_)))
 (refine Q.rn ?_;(repeat (intro b1;refine Q.rn ?_)))
 exact N.r1 (RV.tmp rfl RV.nil) (Ent.refl _) ⟨rfl,rfl⟩
end Go.Proofs.YtiampehfpgcogaaGreatDoor
