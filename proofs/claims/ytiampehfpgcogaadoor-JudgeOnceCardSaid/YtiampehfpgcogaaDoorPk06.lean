/- The judge: the parts of ops, a part's Prepare. Regions that draw an order: an operation that writes may read what is held, and give it back. The judge: what it plans for an Ask. The judge: Plan. The judge: a trial more; a part that has said so. The judge: said, commit. The judge: commit. The judge: Apply. The judge: what it always is stays so. The judge: the law's example. JudgeOnce: the walk. The readings of the judge's scripts. No condition. -/
import Derived.Test.YtiampehfpgcogaaDoorPk05
set_option linter.unusedVariables false
set_option linter.unusedSimpArgs false
set_option linter.unusedSectionVars false
namespace Go.Proofs.YtiampehfpgcogaaDoor
open Go Go.SX
attribute [local irreducible] swp opsS thenS blockS retS CallsS St Ent YieldS anyS drawS
theorem RdS.own {L : List HP} {t sz m c : Nat} {a : Option Addr} {cs : List Value} {L' : HP → List HP} [h : UpdS a L t sz m c cs L'] (ha : m = 0 ∨ ∃ b, a = some ⟨b, 0, none⟩) (hl : cs.length = m * sz) : RdS L a m sz cs := by
  refine ⟨hl, ha.imp id ?_⟩
  rintro ⟨b, rfl⟩
  obtain ⟨R, p1, _⟩ := h.at_
  exact ⟨b, 0, rfl, RdC.slO (t := t) (sz := sz) (m := m) (c := c) ⟨R, Ent.perm p1⟩⟩
def dedG (s : Int) (ids : List Int) : List Int := ids.foldl (fun l o => if homeP s o ∈ l then l else l ++ [homeP s o]) []
theorem dedG_snoc (s : Int) (ids : List Int) (o : Int) : dedG s (ids ++ [o]) = if homeP s o ∈ dedG s ids then dedG s ids else dedG s ids ++ [homeP s o] := by
  unfold dedG; rw [List.foldl_append]; rfl
theorem dedG_ok {s : Int} (h1 : 1 ≤ s) (ids : List Int) : (dedG s ids).Nodup ∧ ∀ x ∈ dedG s ids, 1 ≤ x ∧ x ≤ s := by
  have key : ∀ (ids l : List Int), (l.Nodup ∧ ∀ x ∈ l, 1 ≤ x ∧ x ≤ s) → (ids.foldl (fun l o => if homeP s o ∈ l then l else l ++ [homeP s o]) l).Nodup ∧ ∀ x ∈ ids.foldl (fun l o => if homeP s o ∈ l then l else l ++ [homeP s o]) l, 1 ≤ x ∧ x ≤ s := by
    intro ids
    induction ids with
    | nil => exact fun l h => h
    | cons o ids ih =>
      intro l h
      rw [List.foldl_cons]
      refine ih _ ?_
      split
      · exact h
      · rename_i hm
        refine ⟨List.nodup_append.2 ⟨h.1, by simp, fun x hx y hy => by rw [List.mem_singleton] at hy; subst hy; rintro rfl; exact hm hx⟩, fun x hx => ?_⟩
        rcases List.mem_append.1 hx with hx | hx
        · exact h.2 x hx
        · rw [List.mem_singleton] at hx; subst hx
          have := homeV_b h1 o
          unfold homeP; omega
  exact key ids [] ⟨List.nodup_nil, fun _ h => by cases h⟩
theorem putI_perm (l : List Int) (n : Int) : (putI l n).Perm (n :: l) := by
  unfold putI
  refine List.perm_middle.trans (List.Perm.cons _ ?_)
  rw [List.takeWhile_append_dropWhile]
theorem partsG_ded {s : Int} (h1 : 1 ≤ s) (ops : VL) : sortL (dedG s (ops.map (·.1))) = partsG s ops := by
  have key : ∀ (ops : VL) (l l' : List Int), l'.Perm l → (ops.foldl (fun l o => if homeP s o.1 ∈ l then l else putI l (homeP s o.1)) l').Perm ((ops.map (·.1)).foldl (fun l o => if homeP s o ∈ l then l else l ++ [homeP s o]) l) := by
    intro ops
    induction ops with
    | nil => exact fun l l' h => h
    | cons o ops ih =>
      intro l l' h
      rw [List.map_cons, List.foldl_cons, List.foldl_cons]
      refine ih _ _ ?_
      by_cases hm : homeP s o.1 ∈ l
      · rw [if_pos hm, if_pos (h.mem_iff.2 hm)]; exact h
      · rw [if_neg hm, if_neg (fun x => hm (h.mem_iff.1 x))]
        exact (putI_perm _ _).trans ((h.cons _).trans (List.perm_append_singleton _ _).symm)
  refine sorted_uniq ((sortL_perm _).trans (key ops [] [] (List.Perm.refl _)).symm) (sortL_sorted _) ?_
  exact (partsG_ok h1 ops).1.imp fun h => Int.le_of_lt h
theorem dedG_len {s : Int} (h1 : 1 ≤ s) (h2 : s ≤ 4) (ids : List Int) : (dedG s ids).length ≤ 4 := by
  have h := dedG_ok h1 ids
  have := nodup_le (l := dedG s ids) (m := [1, 2, 3, 4]) h.1 (fun x hx => by
    have := h.2 x hx
    have : x = 1 ∨ x = 2 ∨ x = 3 ∨ x = 4 := by omega
    simpa using this)
  simpa using this
theorem Gparts_spec (p : Nat) (j : JG) (mt md : Nat) (a : Option Addr) (c : Nat) (ops : List OV) (A : List HP) (h : RdS A a ops.length 2 (ops.flatMap OV.cells)) (hn : ops.length ≤ 1000000) (s1 : 1 ≤ j.shards) (s2 : j.shards ≤ 4) :
    CallsS Tryd.prog 37 [ptrG p, .slice a ops.length c] (gP p j mt md :: A) (fun r L' => ∃ a' c', r = .slice a' (partsG j.shards (ops.map OV.abs)).length c' ∧ L' = slO 3 1 a' (partsG j.shards (ops.map OV.abs)).length c' ((partsG j.shards (ops.map OV.abs)).map I64) :: gP p j mt md :: A) := by
  refine CallsS.of_body Tryd.func37 rfl rfl rfl ?_
  refine Q.r ?_; (repeat (intro b1; refine Q.r ?_))
  refine swp_loop (σ := Nat × Option Addr × Nat × List Int) (fun s => [(0, ptrG p), (9, .slice a ops.length c), (10, .int .i64 ops.length), (5, .slice s.2.1 s.2.2.2.length s.2.2.1), (11, .int .i64 s.1)])
    (fun s => slO 3 1 s.2.1 s.2.2.2.length s.2.2.1 (s.2.2.2.map I64) :: gP p j mt md :: A)
    (fun s => s.1 ≤ ops.length ∧ s.2.2.2 = dedG j.shards ((ops.take s.1).map (·.id))) (fun s => ops.length - s.1) (0, none, 0, []) ⟨rfl, rfl, rfl, rfl, rfl, trivial⟩ slO_nil ⟨by omega, rfl⟩ ?_
  rintro ⟨k, a3, c3, us⟩ ⟨hk, hus⟩
  dsimp only at hk hus ⊢
  have hul : us.length ≤ 4 := by rw [hus]; exact dedG_len s1 s2 _
  by_cases hlt : k < ops.length
  · obtain ⟨o, ho⟩ := mem_get hlt
    obtain ⟨b, oo, hia, hr⟩ := RdS.elem (g := OV.cells) (fun _ => rfl) (h.sub (L := slO 3 1 a3 us.length c3 (us.map I64) :: gP p j mt md :: A)) ho rfl
    rw [hia]
    refine Q.r ?_; (repeat (intro b1; refine Q.r ?_))
    refine S.c1 (A := gP p j mt md) rfl (Ghome_spec p j mt md o.id _ s1 s2) ?_
    rintro _ _ ⟨rfl, rfl⟩
    refine opsS_addr a3 (fun ha3 => ?_)
    refine Q.r ?_; (repeat (intro b1; refine Q.r ?_))
    refine S.cr rfl (ContainsP_spec a3 c3 us (homeP j.shards o.id) _ (RdS.own ha3 (by rw [List.length_map, Nat.mul_one])) (by omega)) ?_
    rintro _ _ ⟨rfl, rfl⟩
    have hnext : dedG j.shards ((ops.take (k + 1)).map (·.id)) = if homeP j.shards o.id ∈ us then us else us ++ [homeP j.shards o.id] := by
      rw [take_snoc ho, List.map_append, List.map_cons, List.map_nil, dedG_snoc, ← hus]
    by_cases hm : homeP j.shards o.id ∈ us
    · rw [decide_eq_true hm]
      rw [if_pos hm] at hnext
      refine Q.r ?_; (repeat (intro b1; refine Q.r ?_))
      refine ⟨(k + 1, a3, c3, us), ⟨rfl, rfl, rfl, rfl, rfl, trivial⟩, by exact Go.SX.Ent.go, ⟨by dsimp only; omega, hnext.symm⟩, by dsimp only; omega⟩
    · rw [decide_eq_false hm]
      rw [if_neg hm] at hnext
      refine Q.r ?_; (repeat (intro b1; refine Q.r ?_))
      refine S.app rfl rfl (SrcS.sl RdC.row (by rfl) (by rfl)) (by rfl) (by omega) (by omega) (fun a7 c7 => ?_)
      refine Q.r ?_; (repeat (intro b1; refine Q.r ?_))
      refine ⟨(k + 1, a7, c7, us ++ [homeP j.shards o.id]), ⟨rfl, rfl, rfl, congrArg some (by simp), rfl, trivial⟩, ?_, ⟨by dsimp only; omega, hnext.symm⟩, by dsimp only; omega⟩
      dsimp only
      rw [List.length_append, List.length_singleton, List.map_append, List.map_cons, List.map_nil]
      exact Go.SX.Ent.go
  · have hke : k = ops.length := by omega
    subst hke
    rw [List.take_length] at hus
    refine Q.r ?_; (repeat (intro b1; refine Q.r ?_))
    refine S.c1 (A := slO 3 1 a3 us.length c3 (us.map I64)) rfl (SortI_spec a3 us.length c3 us _ rfl (by omega)) ?_
    rintro _ _ ⟨rfl, rfl⟩
    have hx : partsG j.shards (ops.map OV.abs) = sortL us := by
      rw [hus, ← partsG_ded s1, List.map_map]; rfl
    rw [hx, sortL_len]
    refine Q.r ?_; (repeat (intro b1; refine Q.r ?_))
    exact N.r1 (RV.tmp rfl RV.nil) (Ent.refl _) ⟨a3, c3, rfl, rfl⟩
theorem Gprepare_spec (p : Nat) (j : JG) (mt md : Nat) (t : Nat × TV) (q : Int) (M : Nat → Option Obj) (L : List HP) (ht : okT M t.2) (s1 : 1 ≤ j.shards) (s2 : j.shards ≤ 4) :
    CallsS Tryd.prog 30 [ptrG p, ptT t, .int .i64 q] (gP p j mt md :: oneT t :: roM M :: L) (fun r L' => ∃ (m : NV) (M' : Nat → Option Obj), r = .agg (mcells (q, m)).toArray ∧ leM M M' ∧ okN M' m ∧ (q, m.abs) = prepM j.shards t.2.abs q ∧ L' = gP p j mt md :: oneT t :: roM M' :: L) := by
  refine CallsS.of_body Tryd.func30 rfl rfl rfl ?_
  have hol := ht.ol
  have hpl := ht.pl
  refine Q.r ?_; (repeat (intro b1; refine Q.r ?_))
  revert b1
  intro b6
  refine swp_loop (σ := Nat × Option Addr × Nat × List OV) (fun s => [(0, ptrG p), (1, ptT t), (2, .int .i64 q), (6, .pointer (some ⟨b6, 0, none⟩)), (13, .slice t.2.oa t.2.ops.length t.2.oc), (14, .int .i64 t.2.ops.length), (7, .slice s.2.1 s.2.2.2.length s.2.2.1), (15, .int .i64 s.1)])
    (fun s => slO 57 2 s.2.1 s.2.2.2.length s.2.2.1 (s.2.2.2.flatMap OV.cells) :: pt b6 (cl (mcells (0, NA.zero.nv)) 49) :: gP p j mt md :: oneT t :: roM M :: L)
    (fun s => s.1 ≤ t.2.ops.length ∧ s.2.2.2 = (t.2.ops.take s.1).filter fun o => decide (homeP j.shards o.id = q)) (fun s => t.2.ops.length - s.1) (0, none, 0, []) ⟨rfl, rfl, rfl, rfl, rfl, rfl, rfl, rfl, trivial⟩ slO_nil ⟨by omega, rfl⟩ ?_
  rintro ⟨k, a3, c3, us⟩ ⟨hk, hus⟩
  dsimp only at hk hus ⊢
  have hul : us.length ≤ t.2.ops.length := by
    rw [hus]; exact Nat.le_trans (List.length_filter_le _ _) (by rw [List.length_take]; omega)
  by_cases hlt : k < t.2.ops.length
  · obtain ⟨o, ho⟩ := mem_get hlt
    obtain ⟨b, oo, hia, cr⟩ := SlM.cm (g := OV.cells) (fun _ => rfl) ht.o ho rfl
    rw [hia]
    refine Q.r ?_; (repeat (intro b1; refine Q.r ?_))
    refine S.c1 (A := gP p j mt md) rfl (Ghome_spec p j mt md o.id _ s1 s2) ?_
    rintro _ _ ⟨rfl, rfl⟩
    have hnext : (t.2.ops.take (k + 1)).filter (fun o => decide (homeP j.shards o.id = q)) = us ++ if homeP j.shards o.id = q then [o] else [] := by
      rw [take_snoc ho, List.filter_append, ← hus, List.filter_cons, List.filter_nil]
      by_cases hm : homeP j.shards o.id = q
      · rw [decide_eq_true hm, if_pos hm]; rfl
      · rw [decide_eq_false hm, if_neg hm]; rfl
    by_cases hm : homeP j.shards o.id = q
    · rw [if_pos hm] at hnext
      refine Q.r ?_; (repeat (intro b1; refine Q.r ?_))
      refine S.app rfl rfl (SrcS.sl RdC.row (by rfl) (by rfl)) (by rfl) (by omega) (by omega) (fun a7 c7 => ?_)
      refine Q.r ?_; (repeat (intro b1; refine Q.r ?_))
      refine ⟨(k + 1, a7, c7, us ++ [o]), ⟨rfl, rfl, rfl, rfl, rfl, rfl, congrArg some (by simp), rfl, trivial⟩, ?_, ⟨by dsimp only; omega, hnext.symm⟩, by dsimp only; omega⟩
      dsimp only
      rw [len_snoc, flat_snoc]
      exact Go.SX.Ent.go
    · rw [if_neg hm, List.append_nil] at hnext
      refine Q.r ?_; (repeat (intro b1; refine Q.r ?_))
      refine ⟨(k + 1, a3, c3, us), ⟨rfl, rfl, rfl, rfl, rfl, rfl, rfl, rfl, trivial⟩, by exact Go.SX.Ent.go, ⟨by dsimp only; omega, hnext.symm⟩, by dsimp only; omega⟩
  · have hke : k = t.2.ops.length := by omega
    subst hke
    rw [List.take_length] at hus
    refine Q.r ?_; (repeat (intro b1; refine Q.r ?_))
    refine swp_abs a3 (fun M1 hl1 hs1 => ?_)
    have ht1 := ht.mono hl1
    refine Q.dgo [false, false, false, true] [16, 20] [] [0, 1, 2, 3, 4, 5, 6, 7, 8, 9, 10, 11, 12, 13, 14, 15, 17, 16, 18, 19, 20] ?_
    refine Q.rd ?_; (repeat (intro b1; refine Q.rd ?_))
    refine D.e rfl rfl rfl ?_
    refine S.cr rfl (CloneP_spec t.2.pa t.2.pc t.2.parts _ ht1.p.rd hpl) ?_
    rintro _ _ ⟨ca, cc, rfl, rfl⟩
    refine opsS_abs ca (fun M2 hl2 hs2 => ?_)
    refine Q.r ?_; (repeat (intro b1; refine Q.r ?_))
    refine Q.rd ?_; (repeat (intro b1; refine Q.rd ?_))
    refine Q.r ?_; (repeat (intro b1; refine Q.r ?_))
    refine N.r1 (by apply RV.cellN; rfl; exact RdC.row; rfl; exact RV.nil) ?_ ⟨⟨3, t.2.txn, 0, 0, t.2.after, 0, 0, 0, 0, 0, 0, 0, ca, cc, t.2.parts, a3, c3, us, none, 0, [], none, 0, []⟩, M2, rfl, hl1.trans hl2, ⟨hs2, ⟨hs1.mono hl2, fun o ho => ?_⟩, SlM.nil0, SlM.nil0, fun o ho => by cases ho⟩, ?_, rfl⟩
    · exact Go.SX.Ent.go
    · rw [hus] at ho
      exact (ht1.mono hl2).ov o (List.mem_filter.1 ho).1
    · rw [hus]
      show (q, _) = (q, _)
      refine congrArg (Prod.mk q) ?_
      show NA.mk _ _ _ _ _ _ _ _ _ _ _ _ _ _ _ _ = NA.mk _ _ _ _ _ _ _ _ _ _ _ _ _ _ _ _
      rw [List.filter_map]; rfl
end Go.Proofs.YtiampehfpgcogaaDoor
namespace Go.SX
open Go
section
variable {P : Program} {n : Nat} {ops : List Oper} {Q : Post} {f : Env} {A L : List HP} {E cs σ : List Nat} {listed : Array Bool}
theorem one_ofA {i : Nat} {o : Oper} {F : List HP} {a : Act} {w : World} {k : Nat} (hi : ops[i]? = some o) (ok : okOps n ops = true) (s : Sim n a f) (t : St w (L ++ (A ++ F))) (hsh : shut ops.toArray (listed.setIfInBounds i true))
    (h : oneS P n ops o (fun f L2 => ∃ L', Ent L2 (L' ++ A) ∧ anyS P n ops Q cs A k (listed.setIfInBounds i true) true f L') f (L ++ A)) :
    wpOp P ops.toArray (lift n F Q) i (fun a w => until_ cs (fun w => ∃ L, St w (L ++ (A ++ F))) (listed.setIfInBounds i true) w ∧ anyI P ops.toArray (lift n F Q) (until_ cs fun w => ∃ L, St w (L ++ (A ++ F))) k (listed.setIfInBounds i true) a w) a w := by
  have h2 := h (by simpa [okOps] using okOps_at ok hi) F a w s (by simpa using t)
  simp only [wpList] at h2
  unfold wpOp
  have hi' : ops.toArray[i]? = some o := by simpa using hi
  simp only [hi']
  have key : ∀ a w, lift n F (fun e f L2 => match e with | .normal => ∃ L', Ent L2 (L' ++ A) ∧ anyS P n ops Q cs A k (listed.setIfInBounds i true) true f L' | _ => False) .normal a w →
      until_ cs (fun w => ∃ L, St w (L ++ (A ++ F))) (listed.setIfInBounds i true) w ∧ anyI P ops.toArray (lift n F Q) (until_ cs fun w => ∃ L, St w (L ++ (A ++ F))) k (listed.setIfInBounds i true) a w := by
    rintro a w ⟨f, L2, s, t, L', he, q⟩
    have t3 := he w F t
    exact ⟨.inr ⟨L', by simpa using t3⟩, q ok F a w s hsh (by simpa using t3) (fun h => by cases h)⟩
  by_cases hw : Region.wanted o (yielded ops.toArray a.tmps) = true
  · rw [if_pos hw] at h2 ⊢
    refine .inl ?_
    rcases h2 with h2 | ⟨_, a', w', f, L, _, _, q⟩
    · unfold Oper.wp at h2 ⊢
      generalize (execOp a.eval o).run P w = r at *
      cases r with
      | ok m w' =>
        cases m <;> simp only [Oper.upon] at h2 ⊢ <;> first
          | exact key _ _ h2
          | exact h2
          | (refine Calls.mono h2 fun e w'' he => ?_
             cases e with
             | returned u => exact key _ _ he
             | panicked c => obtain ⟨_, _, _, _, q⟩ := he; exact q.elim
             | outgrown => obtain ⟨_, _, _, _, _, _, q⟩ := he; exact q.elim)
          | exact Rows.mono h2 fun _ _ he => key _ _ he
      | halt x w' => cases x <;> simp only [Oper.upon] at h2 ⊢ <;> first | exact h2 | (obtain ⟨_, _, _, _, q⟩ := h2; exact q.elim)
    · exact q.elim
  · rw [if_neg hw] at h2 ⊢
    exact key _ _ h2
theorem A.oneA (i : Nat) {k : Nat} {o : Oper} (hr : Region.ready .any ops.toArray listed = [i]) (hi : ops[i]? = some o)
    (h : oneS P n ops o (fun f L2 => ∃ L', Ent L2 (L' ++ A) ∧ anyS P n ops Q cs A k (listed.setIfInBounds i true) true f L') f (L ++ A)) : anyS P n ops Q cs A (k + 1) listed true f L := by
  intro ok F a w s hsh t hh
  refine ⟨fun h0 => (by rw [h0] at hr; cases hr), fun j hj => ?_⟩
  have hri : i ∈ Region.ready .any ops.toArray listed := by rw [hr]; simp
  rw [hr] at hj
  obtain rfl : j = i := by simpa using hj
  exact one_ofA hi ok s (by simpa using t) (hsh.set hri) h
class AppL (A L : List HP) (L2 : outParam (List HP)) : Prop where
  eq : A ++ L = L2
instance AppL.nil {L : List HP} : AppL [] L L := ⟨rfl⟩
instance AppL.cons {x : HP} {A L L2 : List HP} [h : AppL A L L2] : AppL (x :: A) L (x :: L2) := ⟨congrArg (List.cons x) h.eq⟩
theorem D.ea {i : Nat} {o : Oper} {L2 : List HP} [hL : AppL A L L2] (hi : ops[i]? = some o) (h9 : Nat.beq i 99999 = false) (hE : E.contains i = true)
    (h : opsS P n ops [o] (thenS (fun f L2 => ∃ L', Ent L2 (A ++ L') ∧ drawS P n ops E cs A σ Q (listed.setIfInBounds i true) true f L') (fun _ _ _ => False)) f L2) : drawS P n ops E cs A (i :: σ) Q listed true f L := by
  intro ho hs hQ
  simp only [ordOK, h9, hE, cond_true, cond_false, Bool.and_eq_true, beq_iff_eq] at ho
  refine _root_.Go.SX.A.oneA i ho.1 hi (opsS_ent (Ent.perm (List.perm_append_comm.trans (hL.eq ▸ List.Perm.refl _))) fun ok F a w s t => wpList_mono (h ok F a w s t) ?_)
  rintro e a w ⟨f, L, s, t, q⟩
  cases e <;> first | exact q.elim | (obtain ⟨L', he, q⟩ := q; exact ⟨f, L, s, t, L', he.trans (Ent.perm List.perm_append_comm), q ho.2 hs hQ⟩)
class PickL (A L : List HP) (L' : outParam (List HP)) : Prop where
  ent : Ent L (A ++ L')
instance PickL.nil {L : List HP} : PickL [] L L := ⟨Ent.refl _⟩
instance PickL.cons {x : HP} {A L L1 L' : List HP} [h1 : Pick x L L1] [h2 : PickL A L1 L'] : PickL (x :: A) L L' := ⟨h1.ent.trans h2.ent.cons⟩
theorem D.back {L' : List HP} [h : PickL A L L'] (hk : drawS P n ops E cs A σ Q listed true f L') : ∃ L', Ent L (A ++ L') ∧ drawS P n ops E cs A σ Q listed true f L' := ⟨L', h.ent, hk⟩
end
end Go.SX
namespace Go.Proofs.YtiampehfpgcogaaDoor
open Go Go.SX
attribute [local irreducible] swp opsS thenS blockS retS CallsS St Ent YieldS anyS drawS
structure JB (j : JG) : Prop where
  e0 : 0 ≤ j.epoch
  e1 : j.epoch ≤ 1099511627776
  s0 : 0 ≤ j.seq
  s1 : j.seq < 1048576
  l0 : 0 ≤ j.last
  l1 : j.last ≤ 1099511627776
  d1 : 1 ≤ j.dim
  d2 : j.dim ≤ 8
abbrev eP : HP := slO 39 16 none 0 0 []
abbrev askT (j : JG) (fr : Int) (n : NV) (pa : Option Addr) (pc : Nat) : TV := ⟨j.epoch * 1048576 + j.seq + 1, n.batch, 0, j.last, fr, pa, pc, partsG j.shards (n.ops.map OV.abs), none, 0, [], none, 0, [], n.oa, n.oc, n.ops⟩
abbrev askN (j : JG) (fr : Int) (n : NV) (pa : Option Addr) (pc : Nat) : NV := ⟨19, j.epoch * 1048576 + j.seq + 1, n.batch, 0, j.last, 0, 0, 0, 0, 0, 0, fr, pa, pc, partsG j.shards (n.ops.map OV.abs), n.oa, n.oc, n.ops, none, 0, [], none, 0, []⟩
abbrev eMl : HP := slO 49 17 none 0 0 []
theorem gr_mail (M : Nat → Option Obj) (p : Nat) (j : JG) (L : List HP) (m : Int × NA) (hm : m.2.nv.abs = m.2) (b : Nat) : planGR0 M p j ⟨[], [], [m], [], []⟩ L (.agg #[.slice none 0 0, .slice none 0 0, .slice (some ⟨b, 0, none⟩) 1 1, .slice none 0 0, .slice none 0 0])
    (eP :: eP :: slO 49 17 (some ⟨b, 0, none⟩) 1 1 (mailC m) :: eP :: eMl :: jdgH M p j :: roM M :: L) :=
  ⟨none, 0, [], none, 0, [], some ⟨b, 0, none⟩, 1, [(m.1, m.2.nv)], none, 0, [], none, 0, [], M, rfl, leM.refl M, ⟨fun _ h => (by cases h), fun _ h => (by cases h), fun m hm => (by rw [List.mem_singleton.1 hm]; exact okN.nv _), fun _ h => (by cases h), fun _ h => (by cases h)⟩, ⟨rfl, rfl, congrArg (fun z => [(m.1, z)]) hm, rfl, rfl⟩, by simp⟩
theorem gr_ent {M : Nat → Option Obj} {p mt md b : Nat} {j : JG} {ts : List TB} {L : List HP} {m : Int × NA} (hq : GQ' M j ts) : Ent (pt b (cl (mailC m) 49) :: gP p j mt md :: gT mt ts :: trsH ts :: gD md j.done :: roM M :: L) (eP :: eP :: slO 49 17 (some ⟨b, 0, none⟩) 1 1 (mailC m) :: eP :: eMl :: jdgH M p j :: roM M :: L) := by
  refine Ent.trans (Ent.cons (jdg_shut hq)) (Ent.trans (slO_fold (sz := 17) (m := 1) rfl) ?_)
  exact Go.SX.Ent.go
set_option maxHeartbeats 4000000 in
theorem Gask_spec (n : NV) (M : Nat → Option Obj) (p : Nat) (j : JG) (fr : Int) (L : List HP) (hb : JB j) (hn : okN M n) (hN : OkN n) :
    CallsS Tryd.prog 19 [ptrG p, .int .i64 fr, n.val] (jdgH M p j :: roM M :: L) (planGR0 M p j (askG j fr n.abs) L) := by
  unfold askG
  refine calls_jdg fun mt md ts hq => ?_
  refine CallsS.of_body Tryd.func19 rfl rfl rfl ?_
  refine Q.r ?_; (repeat (intro b1; refine Q.r ?_))
  rename_i b5
  revert b1
  intro b6
  refine Q.dgo [true, true, true, true, true, true, true] [] [] [0, 1, 2, 3, 4, 5, 6, 7, 8, 9, 10, 11] ?_
  refine Q.rd ?_; (repeat (intro b1; refine Q.rd ?_))
  refine D.y rfl rfl rfl (by kernel_rfl) (Y.lk true rfl rfl (fun w => Tryd.zeroValue30 w)) ?_
  cases hz : lkL j.done n.batch with
  | some s =>
    dsimp only
    refine Q.rd ?_; (repeat (intro b1; refine Q.rd ?_))
    refine Q.r ?_; (repeat (intro b1; refine Q.r ?_))
    refine S.cr rfl (Greply_spec fr n.batch s 0 _) ?_
    rintro _ _ ⟨rfl, rfl⟩
    refine Q.r ?_; (repeat (intro b1; refine Q.r ?_))
    refine N.r1 (by apply RV.cellN; rfl; exact RdC.row; rfl; exact RV.nil) (Ent.trans (M := pt b1 (cl (mailC (repM fr n.batch s 0)) 49) :: gP p j mt md :: gT mt ts :: trsH ts :: gD md j.done :: roM M :: L) (by exact Go.SX.Ent.go) (gr_ent hq)) (gr_mail M p j L (repM fr n.batch s 0) rfl b1)
  | none =>
    dsimp only
    refine Q.rd ?_; (repeat (intro b1; refine Q.rd ?_))
    refine Q.r ?_; (repeat (intro b1; refine Q.r ?_))
    refine S.rg rfl (fun r => ?_)
    refine Q.r ?_; (repeat (intro b1; refine Q.r ?_))
    refine swp_cutB (σ := Unit) (fun _ => [(0, ptrG p), (1, .int .i64 fr), (5, .pointer (some ⟨b5, 0, none⟩)), (6, .pointer (some ⟨b6, 0, none⟩))])
      (fun _ => pt b6 (cl [.slice none 0 0, .slice none 0 0, .slice none 0 0, .slice none 0 0, .slice none 0 0] 44) :: pt b5 (cl n.cells 39) :: gP p j mt md :: gT mt ts :: trsH ts :: gD md j.done :: roM M :: L) (fun _ => ¬ j.tr.any (fun u => decide (u.2.batch = n.batch)) = true) ?_ ?_
    · refine swp_loop (σ := List Nat) (fun _ => [(0, ptrG p), (1, .int .i64 fr), (5, .pointer (some ⟨b5, 0, none⟩)), (6, .pointer (some ⟨b6, 0, none⟩)), (38, .pointer (some ⟨r, 0, none⟩))])
        (fun vis => itO U64 ptT mt r ts vis :: pt b6 (cl [.slice none 0 0, .slice none 0 0, .slice none 0 0, .slice none 0 0, .slice none 0 0] 44) :: pt b5 (cl n.cells 39) :: gP p j mt md :: trsH ts :: gD md j.done :: roM M :: L)
        (fun vis => vis.Nodup ∧ (∀ i ∈ vis, i < ts.length) ∧ ∀ i ∈ vis, ∀ u : TB, ts[i]? = some u → u.2.2.batch ≠ n.batch) (fun vis => ts.length - vis.length) [] ⟨rfl, rfl, rfl, rfl, rfl, trivial⟩ (by exact Go.SX.Ent.go) ⟨by simp, by simp, by simp⟩ ?_
      rintro vis ⟨hv1, hv2, hv3⟩
      refine Q.r ?_; (repeat (intro b1; refine Q.r ?_))
      refine S.nx rfl (fun hend => ?_) (fun i u hu hi => ?_)
      · refine Q.r ?_; (repeat (intro b1; refine Q.r ?_))
        refine ⟨(), ⟨rfl, rfl, rfl, rfl, trivial⟩, Ent.trans itO_map (by exact Go.SX.Ent.go), ?_⟩
        rw [List.any_eq_true]
        rintro ⟨w, hw, hwb⟩
        rw [← hq.tr] at hw
        obtain ⟨u, hu, rfl⟩ := List.mem_map.1 hw
        obtain ⟨i, hi⟩ := List.mem_iff_getElem?.1 hu
        exact hv3 i (hend i (List.getElem?_eq_some_iff.1 hi).1) u hi (by simpa using hwb)
      · obtain ⟨m1, m2, m3⟩ := vis_more hv1 hv2 (List.getElem?_eq_some_iff.1 hu).1 hi
        refine Q.r ?_; (repeat (intro b1; refine Q.r ?_))
        refine S.y (Y.en rfl hu) ?_
        refine Q.r ?_; (repeat (intro b1; refine Q.r ?_))
        refine swp_trs hu ?_
        by_cases hbb : u.2.2.batch = n.batch
        · have hany : j.tr.any (fun u => decide (u.2.batch = n.abs.batch)) = true := by
            rw [List.any_eq_true, ← hq.tr]
            exact ⟨_, List.mem_map.2 ⟨u, List.mem_of_getElem? hu, rfl⟩, by simpa using hbb⟩
          refine Q.dgo [true, true, true, true, true] [] [] [0, 1, 2, 3, 4, 5, 6, 7] ?_
          refine Q.rd ?_; (repeat (intro b1; refine Q.rd ?_))
          refine Q.r ?_; (repeat (intro b1; refine Q.r ?_))
          rw [if_pos hany]
          refine N.r1 (by apply RV.cellN; rfl; exact RdC.row; rfl; exact RV.nil) (Ent.trans (M := itO U64 ptT mt r ts (vis ++ [i]) :: gP p j mt md :: oneT u.2 :: trsH (ts.eraseIdx i) :: gD md j.done :: roM M :: L) (by exact Go.SX.Ent.go) (Ent.trans itO_map (Ent.trans (Ent.trans (M := gP p j mt md :: gT mt ts :: oneT u.2 :: trsH (ts.eraseIdx i) :: gD md j.done :: roM M :: L) (by exact Go.SX.Ent.go) (jdg_shut1 hu hq)) nil5))) (planGR0.none M p j L)
        · refine Q.dgo [true, true, true, true, true] [] [] [0, 1, 2, 3, 4, 5, 6, 7] ?_
          refine Q.rd ?_; (repeat (intro b1; refine Q.rd ?_))
          refine Q.r ?_; (repeat (intro b1; refine Q.r ?_))
          refine ⟨vis ++ [i], ⟨rfl, rfl, rfl, rfl, rfl, trivial⟩, Ent.trans (trs_back hu) (by exact Go.SX.Ent.go), ⟨m1, m2, fun k hk w hw => ?_⟩, by simp; omega⟩
          rcases List.mem_append.1 hk with hk | hk
          · exact hv3 k hk w hw
          · rw [List.mem_singleton] at hk; subst hk
            rw [hu] at hw; injection hw with hw; subst hw; exact hbb
    · rintro _ hany
      rw [if_neg hany]
      have hb1 := hb.d1
      have hb2 := hb.d2
      have hlt : j.tr.length = ts.length := by rw [← hq.tr, List.length_map]
      have e0 := hb.e0
      have e1 := hb.e1
      have q0 := hb.s0
      have q1 := hb.s1
      have l0 := hb.l0
      have l1 := hb.l1
      refine Q.r ?_; (repeat (intro b1; refine Q.r ?_))
      refine Q.dgo [false, true, true] [6] [] [0, 1, 2, 3, 4, 5, 6, 7] ?_
      refine Q.rd ?_; (repeat (intro b1; refine Q.rd ?_))
      refine D.e rfl rfl rfl ?_
      refine S.cr rfl (Check_spec j.dim n.oa n.oc n.ops _ hn.rd.o hN.o hN.ov (by omega)) ?_
      rintro _ _ ⟨rfl, rfl⟩
      refine Q.r ?_; (repeat (intro b1; refine Q.r ?_))
      refine Q.rd ?_; (repeat (intro b1; refine Q.rd ?_))
      by_cases hc : checkV j.dim (n.ops.map OV.abs) = 0
      · by_cases hf : 8 ≤ j.tr.length ∨ 1048575 ≤ j.seq ∨ 1099511627776 ≤ j.last
        · have hE : askE j n.abs = 8 := by
            unfold askE
            rw [if_neg (fun h => h hc), if_pos hf]
          rw [if_pos (by rw [hE]; decide), hE, hc]
          rw [hlt] at hf
          refine N.tn ?_
          refine swp_seq ?_
          refine swp_cutT (σ := Unit) (fun _ => [(0, ptrG p), (1, .int .i64 fr), (5, .pointer (some ⟨b5, 0, none⟩)), (6, .pointer (some ⟨b6, 0, none⟩)), (11, .int .i64 8)])
            (fun _ => pt b6 (cl [.slice none 0 0, .slice none 0 0, .slice none 0 0, .slice none 0 0, .slice none 0 0] 44) :: pt b5 (cl n.cells 39) :: gP p j mt md :: gT mt ts :: trsH ts :: gD md j.done :: roM M :: L) (fun _ => True) ?_ ?_
          · by_cases h8 : 8 ≤ ts.length
            · refine Q.r ?_; (repeat (intro b1; refine Q.r ?_))
              exact ⟨(), ⟨rfl, rfl, rfl, rfl, rfl, trivial⟩, by exact Go.SX.Ent.go, trivial⟩
            by_cases h9 : 1048575 ≤ j.seq
            · refine Q.r ?_; (repeat (intro b1; refine Q.r ?_))
              exact ⟨(), ⟨rfl, rfl, rfl, rfl, rfl, trivial⟩, by exact Go.SX.Ent.go, trivial⟩
            have h10 : 1099511627776 ≤ j.last := by omega
            refine Q.r ?_; (repeat (intro b1; refine Q.r ?_))
            exact ⟨(), ⟨rfl, rfl, rfl, rfl, rfl, trivial⟩, by exact Go.SX.Ent.go, trivial⟩
          · rintro _ _
            refine Q.r ?_; (repeat (intro b1; refine Q.r ?_))
            refine S.cr rfl (Greply_spec fr n.batch 0 8 _) ?_
            rintro _ _ ⟨rfl, rfl⟩
            refine Q.r ?_; (repeat (intro b1; refine Q.r ?_))
            refine N.r1 (by apply RV.cellN; rfl; exact RdC.row; rfl; exact RV.nil) (Ent.trans (M := pt b1 (cl (mailC (repM fr n.batch 0 8)) 49) :: gP p j mt md :: gT mt ts :: trsH ts :: gD md j.done :: roM M :: L) (by exact Go.SX.Ent.go) (gr_ent hq)) (gr_mail M p j L (repM fr n.batch 0 8) rfl b1)
        · have hE : askE j n.abs = 0 := by
            unfold askE
            rw [if_neg (fun h => h hc), if_neg hf]
          rw [if_neg (fun h => h hE), hc]
          rw [hlt] at hf
          have h8 : ¬ 8 ≤ ts.length := fun h => hf (.inl h)
          have h9 : ¬ 1048575 ≤ j.seq := fun h => hf (.inr (.inl h))
          have h10 : ¬ 1099511627776 ≤ j.last := fun h => hf (.inr (.inr h))
          have wz : ∀ a : Int, 0 ≤ a → a < 18446744073709551616 → IntKind.u64.wrap a = a := fun a h1 h2 => wrap_u64 h1 (by omega)
          refine Q.r ?_; (repeat (intro b1; refine Q.r ?_))
          refine swp_cutT (σ := Nat × Option Addr × Nat × (Nat → Option Obj)) (fun s => [(0, ptrG p), (6, .pointer (some ⟨b6, 0, none⟩)), (12, .pointer (some ⟨s.1, 0, none⟩))])
            (fun s => oneT (s.1, askT j fr n s.2.1 s.2.2.1) :: pt b6 (cl [.slice none 0 0, .slice none 0 0, .slice none 0 0, .slice none 0 0, .slice none 0 0] 44) :: gP p j mt md :: gT mt ts :: trsH ts :: gD md j.done :: roM s.2.2.2 :: L)
            (fun s => leM M s.2.2.2 ∧ SlM s.2.2.2 s.2.1 (partsG j.shards (n.ops.map OV.abs)).length 1 ((partsG j.shards (n.ops.map OV.abs)).map I64)) ?_ ?_
          · refine Q.dgo [true, true] [21, 26] [] [0, 1, 2, 3, 4, 5, 6, 7, 8, 9, 10, 11, 12, 13, 14, 15, 16, 17, 18, 19, 20, 23, 24, 21, 22, 25, 26, 27] ?_
            refine Q.rd ?_; (repeat (intro b1; refine Q.rd ?_))
            refine D.y rfl rfl rfl (by kernel_rfl) (Y.shlI (b := 20) rfl rfl (by decide)) ?_
            rw [show j.epoch * 2 ^ 20 = j.epoch * 1048576 by omega, wz _ (by omega) (by omega)]
            refine Q.rd ?_; (repeat (intro b1; refine Q.rd ?_))
            refine D.y rfl rfl rfl (by kernel_rfl) (Y.add rfl rfl) ?_
            rw [wz _ (by omega) (by omega)]
            refine Q.rd ?_; (repeat (intro b1; refine Q.rd ?_))
            refine D.y rfl rfl rfl (by kernel_rfl) (Y.add rfl rfl) ?_
            rw [wz _ (by omega) (by omega)]
            refine Q.rd ?_; (repeat (intro b1; refine Q.rd ?_))
            refine D.ea rfl rfl rfl ?_
            refine S.c1 (A := gP p j mt md) rfl (Gparts_spec p j mt md n.oa n.oc n.ops _ (by exact hn.rd.o.1) hN.o hq.s1 hq.s2) ?_
            rintro _ _ ⟨pa, pc, rfl, rfl⟩
            refine opsS_abs pa (fun M1 hl1 hs1 => ?_)
            refine opsS_nil ?_; refine N.tn ?_; refine D.back ?_
            refine Q.rd ?_; (repeat (intro b1; refine Q.rd ?_))
            refine N.tn ⟨(b1, pa, pc, M1), ⟨rfl, rfl, rfl, trivial⟩, ?_, hl1, hs1⟩
            (try dsimp only); exact Go.SX.Ent.go
          · rintro ⟨bt, pa, pc, M1⟩ ⟨hl1, hs1⟩
            dsimp only at hl1 hs1 ⊢
            have ht1 : okT M1 (askT j fr n pa pc) := ⟨hs1, SlM.nil0, SlM.nil0, (hn.mono hl1).o.1, (hn.mono hl1).o.2, by have := rise_len (partsG_ok hq.s1 (n.ops.map OV.abs)).1 (partsG_ok hq.s1 (n.ops.map OV.abs)).2 (by have := hq.s1; omega); have := hq.s2; show (partsG j.shards (n.ops.map OV.abs)).length ≤ _; omega, Nat.zero_le _, Nat.zero_le _, hN.o⟩
            refine Q.r ?_; (repeat (intro b1; refine Q.r ?_))
            refine swp_cutT (σ := Nat × Nat) (fun s => [(0, ptrG p), (6, .pointer (some ⟨b6, 0, none⟩)), (12, .pointer (some ⟨bt, 0, none⟩)), (13, .pointer (some ⟨s.1, 0, none⟩))])
              (fun s => pt s.1 (cl [.slice none 0 0, .slice (some ⟨s.2, 0, none⟩) 1 1, .slice none 0 0, .slice none 0 0, .slice none 0 0] 44) :: pt s.2 (cl (askN j fr n pa pc).cells 39) :: oneT (bt, askT j fr n pa pc) :: pt b6 (cl [.slice none 0 0, .slice none 0 0, .slice none 0 0, .slice none 0 0, .slice none 0 0] 44) :: gP p j mt md :: gT mt ts :: trsH ts :: gD md j.done :: roM M1 :: L)
              (fun s => True) ?_ ?_
            · refine Q.dgo [true] [30, 32, 33] [] [0, 1, 2, 3, 4, 5, 6, 7, 8, 9, 10, 11, 12, 13, 14, 15, 16, 17, 18, 19, 20, 21, 22, 23, 24, 25, 26, 27, 28, 29, 99999, 0, 0, 0] ?_
              refine Q.rd ?_; (repeat (intro b1; refine Q.rd ?_))
              refine D.two 30 32 [31, 32, 33] [30, 31, 33] (by kernel_rfl) rfl rfl rfl rfl (by kernel_rfl) (by kernel_rfl) ?_ ?_
              · refine Q.r ?_; (repeat (intro b1; refine Q.r ?_))
                refine Q.rd ?_; (repeat (intro b1; refine Q.rd ?_))
                rename_i bn
                refine N.tn ⟨(b1, bn), ⟨rfl, rfl, rfl, rfl, trivial⟩, ?_, trivial⟩
                (try dsimp only); exact Go.SX.Ent.go
              · refine Q.r ?_; (repeat (intro b1; refine Q.r ?_))
                refine Q.rd ?_; (repeat (intro b1; refine Q.rd ?_))
                rename_i bp
                refine N.tn ⟨(bp, b1), ⟨rfl, rfl, rfl, rfl, trivial⟩, ?_, trivial⟩
                (try dsimp only); exact Go.SX.Ent.go
            · rintro ⟨bp, bn⟩ _
              dsimp only
              refine Q.r ?_; (repeat (intro b1; refine Q.r ?_))
              obtain ⟨ps, hps⟩ : ∃ ps, ps = partsG j.shards (n.ops.map OV.abs) := ⟨_, rfl⟩
              have hpo := partsG_ok hq.s1 (n.ops.map OV.abs)
              have hpl : ps.length ≤ 4 := by have := rise_len (hps ▸ hpo.1) (hps ▸ hpo.2) (by have := hq.s1; omega); have := hq.s2; omega
              refine swp_loop (σ := Nat × Option Addr × Nat × List (Int × NV) × (Nat → Option Obj)) (fun s => [(0, ptrG p), (6, .pointer (some ⟨b6, 0, none⟩)), (12, .pointer (some ⟨bt, 0, none⟩)), (13, .pointer (some ⟨bp, 0, none⟩)), (155, .slice pa ps.length pc), (156, .int .i64 ps.length), (157, .int .i64 s.1)])
                (fun s => pt bp (cl [.slice none 0 0, .slice (some ⟨bn, 0, none⟩) 1 1, .slice s.2.1 s.2.2.2.1.length s.2.2.1, .slice none 0 0, .slice none 0 0] 44) :: slO 49 17 s.2.1 s.2.2.2.1.length s.2.2.1 (s.2.2.2.1.flatMap mcells) :: pt bn (cl (askN j fr n pa pc).cells 39) :: oneT (bt, askT j fr n pa pc) :: pt b6 (cl [.slice none 0 0, .slice none 0 0, .slice none 0 0, .slice none 0 0, .slice none 0 0] 44) :: gP p j mt md :: gT mt ts :: trsH ts :: gD md j.done :: roM s.2.2.2.2 :: L)
                (fun s => s.1 ≤ ps.length ∧ s.2.2.2.1.map (fun m => (m.1, m.2.abs)) = (ps.take s.1).map (prepM j.shards (newT j fr n.abs)) ∧ leM M1 s.2.2.2.2 ∧ ∀ m ∈ s.2.2.2.1, okN s.2.2.2.2 m.2) (fun s => ps.length - s.1) (0, none, 0, [], M1) ⟨rfl, rfl, rfl, rfl, congrArg some (by rw [hps]), congrArg some (by rw [hps]), rfl, trivial⟩ (Ent.cons slO_nil) ⟨Nat.zero_le _, rfl, leM.refl M1, fun _ h => by cases h⟩ ?_
              rintro ⟨k, a3, c3, us, M2⟩ ⟨hk, hus, hl2, huo⟩
              dsimp only at hk hus hl2 huo ⊢
              have hul : us.length = k := by
                have := congrArg List.length hus
                rw [List.length_map, List.length_map, List.length_take] at this; omega
              by_cases hlt2 : k < ps.length
              · obtain ⟨q, hq2⟩ := mem_get hlt2
                rw [← hps] at hs1
                obtain ⟨bq, oq, hia, cr⟩ := SlM.cm (g := fun z : Int => [I64 z]) (fun _ => rfl) (by rw [flat_I64]; exact hs1.mono hl2) hq2 rfl
                subst hia
                refine Q.r ?_; (repeat (intro b1; refine Q.r ?_))
                refine Q.dgo [true] [5, 6, 7, 9] [9] [0, 1, 2, 3, 4, 5, 6, 7, 8, 9] ?_
                refine Q.rd ?_; (repeat (intro b1; refine Q.rd ?_))
                refine D.e rfl rfl rfl ?_
                refine S.c3 (A := gP p j mt md) (B := oneT (bt, askT j fr n (some ⟨bq, oq, none⟩) pc)) (C := roM M2) rfl (Gprepare_spec p j mt md (bt, askT j fr n (some ⟨bq, oq, none⟩) pc) q M2 _ (ht1.mono hl2) hq.s1 hq.s2) ?_
                rintro _ _ ⟨m, M3, rfl, hl3, hm3, hma, rfl⟩
                refine Q.r ?_; (repeat (intro b1; refine Q.r ?_))
                refine Q.rd ?_; (repeat (intro b1; refine Q.rd ?_))
                refine D.e rfl rfl rfl ?_
                refine S.app rfl rfl (SrcS.sl RdC.row (by rfl) (by rfl)) (by rfl) (by omega) (by omega) (fun a7 c7 => ?_)
                refine Q.r ?_; (repeat (intro b1; refine Q.r ?_))
                refine Q.rd ?_; (repeat (intro b1; refine Q.rd ?_))
                refine Q.dc rfl rfl rfl rfl ?_
                refine Q.r ?_; (repeat (intro b1; refine Q.r ?_))
                refine Q.rd ?_; (repeat (intro b1; refine Q.rd ?_))
                refine Q.r ?_; (repeat (intro b1; refine Q.r ?_))
                refine ⟨(k + 1, a7, c7, us ++ [(q, m)], M3), ⟨rfl, rfl, rfl, rfl, rfl, rfl, rfl, trivial⟩, ?_, ⟨by dsimp only; omega, ?_, hl2.trans hl3, fun w hw => ?_⟩, by dsimp only; omega⟩
                · dsimp only
                  rw [len_snoc, flat_snoc]
                  exact Go.SX.Ent.go
                · dsimp only
                  rw [List.map_append, hus, take_snoc hq2, List.map_append]
                  exact congrArg (fun z => _ ++ [z]) hma
                · rcases List.mem_append.1 hw with hw | hw
                  · exact (huo w hw).mono hl3
                  · rw [List.mem_singleton] at hw; subst hw; exact hm3
              · have hke : k = ps.length := by omega
                subst hke
                rw [List.take_length] at hus
                refine Q.r ?_; (repeat (intro b1; refine Q.r ?_))
                refine N.r1 (by apply RV.cellN; rfl; exact RdC.row; rfl; exact RV.nil) (Ent.trans (M := slO 49 17 a3 us.length c3 (us.flatMap mcells) :: pt bn (cl (askN j fr n pa pc).cells 39) :: gP p j mt md :: gT mt ts :: trsH ts :: gD md j.done :: roM M2 :: L) (by exact Go.SX.Ent.go) (Ent.trans (Ent.cons (Ent.cons (jdg_shut (hq.mono (hl1.trans hl2))))) (Ent.trans (Ent.cons (slO_fold (sz := 16) (m := 1) rfl)) ?_))) ⟨none, 0, [], some ⟨bn, 0, none⟩, 1, [askN j fr n pa pc], a3, c3, us, none, 0, [], none, 0, [], M2, rfl, hl1.trans hl2, ⟨fun _ h => (by cases h), fun m hm => ?_, huo, fun _ h => (by cases h), fun _ h => (by cases h)⟩, ⟨rfl, rfl, ?_, rfl, rfl⟩, rfl⟩
                · show Ent _ (eP :: slO 39 16 (some ⟨bn, 0, none⟩) 1 1 (askN j fr n pa pc).cells :: slO 49 17 a3 us.length c3 (us.flatMap mcells) :: eP :: eMl :: jdgH M2 p j :: roM M2 :: L)
                  exact Go.SX.Ent.go
                · rw [List.mem_singleton.1 hm]
                  exact ⟨hs1.mono hl2, (hn.mono (hl1.trans hl2)).o, SlM.nil0, SlM.nil0, fun o ho => by cases ho⟩
                · rw [hus, hps]
      · have hE : askE j n.abs = checkV j.dim (n.ops.map OV.abs) := by
          unfold askE
          rw [if_pos hc]
        rw [if_pos (by rw [hE]; exact hc), hE]
        refine Q.r ?_; (repeat (intro b1; refine Q.r ?_))
        refine S.cr rfl (Greply_spec fr n.batch 0 (checkV j.dim (n.ops.map OV.abs)) _) ?_
        rintro _ _ ⟨rfl, rfl⟩
        refine Q.r ?_; (repeat (intro b1; refine Q.r ?_))
        refine N.r1 (by apply RV.cellN; rfl; exact RdC.row; rfl; exact RV.nil) (Ent.trans (M := pt b1 (cl (mailC (repM fr n.batch 0 (checkV j.dim (n.ops.map OV.abs)))) 49) :: gP p j mt md :: gT mt ts :: trsH ts :: gD md j.done :: roM M :: L) (by exact Go.SX.Ent.go) (gr_ent hq)) (gr_mail M p j L (repM fr n.batch 0 (checkV j.dim (n.ops.map OV.abs))) rfl b1)
end Go.Proofs.YtiampehfpgcogaaDoor
namespace Go.Proofs.YtiampehfpgcogaaDoor
open Go Go.SX
attribute [local irreducible] swp opsS thenS blockS retS CallsS St Ent YieldS anyS drawS
set_option maxHeartbeats 2000000 in
theorem GPlan_spec (n : NV) (M : Nat → Option Obj) (p : Nat) (j : JG) (fr : Int) (L : List HP) (hb : JB j) (hn : okN M n) (hN : OkN n) (hT : TabM M) (h0 : 0 ≤ n.kind ∧ n.kind ≤ 255) :
    CallsS Tryd.prog 8 [ptrG p, .int .i64 fr, n.val] (jdgH M p j :: roM M :: L) (planGR M p j (planG j fr n.abs) L) := by
  have fin : ∀ {g : FuncId} {pl : PG} {L : List HP}, CallsS Tryd.prog g [ptrG p, .int .i64 fr, n.val] (jdgH M p j :: roM M :: L) (planGR0 M p j pl L) → CallsS Tryd.prog g [ptrG p, .int .i64 fr, n.val] (jdgH M p j :: roM M :: L) (planGR M p j pl L) := fun h => h.post fun _ _ h => planGR.of0 h
  unfold planG
  refine CallsS.of_body Tryd.func8 rfl rfl rfl ?_
  refine Q.r ?_; (repeat (intro b1; refine Q.r ?_))
  refine S.cr rfl (NRight_spec n _ hn.rd hN hT.rd h0) ?_
  rintro _ _ ⟨rfl, rfl⟩
  have e5 : ∀ {L : List HP}, planGR M p j PG.none L (.agg #[.slice none 0 0, .slice none 0 0, .slice none 0 0, .slice none 0 0, .slice none 0 0]) (jdgH M p j :: roM M :: L) := planGR.none M p j _
  cases hr : rightN n.abs with
  | false =>
    rw [if_pos (.inl rfl)]
    refine Q.r ?_; (repeat (intro b1; refine Q.r ?_))
    exact N.r1 (by apply RV.cellN; rfl; exact RdC.row; rfl; exact RV.nil) (by exact Go.SX.Ent.go) e5
  | true =>
  by_cases hf1 : fr < 0
  · rw [if_pos (.inr (.inl hf1))]
    refine Q.r ?_; (repeat (intro b1; refine Q.r ?_))
    exact N.r1 (by apply RV.cellN; rfl; exact RdC.row; rfl; exact RV.nil) (by exact Go.SX.Ent.go) e5
  by_cases hf2 : 16 ≤ fr
  · rw [if_pos (.inr (.inr hf2))]
    refine Q.r ?_; (repeat (intro b1; refine Q.r ?_))
    exact N.r1 (by apply RV.cellN; rfl; exact RdC.row; rfl; exact RV.nil) (by exact Go.SX.Ent.go) e5
  rw [if_neg (by rintro (h | h | h); cases h; exact hf1 h; exact hf2 h)]
  rw [show n.abs.kind = n.kind from rfl]
  by_cases h1 : n.kind = 1
  · rw [if_pos h1]
    refine Q.r ?_; (repeat (intro b1; refine Q.r ?_))
    refine S.cg p rfl (fin (Gask_spec n M p j fr _ hb hn hN)) ?_
    rintro _ _ ⟨a1, c1, rs, a2, c2, ns, a3, c3, ms, a4, c4, is, a5, c5, es, M2, rfl, hl, ok, ab, rfl⟩; (refine Q.r ?_; (repeat (intro b1; refine Q.r ?_))); refine N.r1 (by apply RV.cellN; rfl; exact RdC.row; rfl; exact RV.nil) ?_ ⟨a1, c1, rs, a2, c2, ns, a3, c3, ms, a4, c4, is, a5, c5, es, M2, rfl, hl, ok, ab, rfl⟩; exact Go.SX.Ent.go
  rw [if_neg h1]
  by_cases h4 : n.kind = 4
  · rw [if_pos h4]
    refine Q.r ?_; (repeat (intro b1; refine Q.r ?_))
    refine S.cg p rfl (fin (Gvote_spec n M p j fr _ hb.l0 hb.l1)) ?_
    rintro _ _ ⟨a1, c1, rs, a2, c2, ns, a3, c3, ms, a4, c4, is, a5, c5, es, M2, rfl, hl, ok, ab, rfl⟩; (refine Q.r ?_; (repeat (intro b1; refine Q.r ?_))); refine N.r1 (by apply RV.cellN; rfl; exact RdC.row; rfl; exact RV.nil) ?_ ⟨a1, c1, rs, a2, c2, ns, a3, c3, ms, a4, c4, is, a5, c5, es, M2, rfl, hl, ok, ab, rfl⟩; exact Go.SX.Ent.go
  rw [if_neg h4]
  by_cases h6 : n.kind = 6
  · rw [if_pos h6]
    refine Q.r ?_; (repeat (intro b1; refine Q.r ?_))
    refine S.cg p rfl (fin (Gack_spec n M p j fr _)) ?_
    rintro _ _ ⟨a1, c1, rs, a2, c2, ns, a3, c3, ms, a4, c4, is, a5, c5, es, M2, rfl, hl, ok, ab, rfl⟩; (refine Q.r ?_; (repeat (intro b1; refine Q.r ?_))); refine N.r1 (by apply RV.cellN; rfl; exact RdC.row; rfl; exact RV.nil) ?_ ⟨a1, c1, rs, a2, c2, ns, a3, c3, ms, a4, c4, is, a5, c5, es, M2, rfl, hl, ok, ab, rfl⟩; exact Go.SX.Ent.go
  rw [if_neg h6]
  by_cases h7 : n.kind = 7
  · rw [if_pos h7]
    refine Q.r ?_; (repeat (intro b1; refine Q.r ?_))
    refine S.cg p rfl (Gprobe_spec n M p j fr _) ?_
    rintro _ _ ⟨a1, c1, rs, a2, c2, ns, a3, c3, ms, a4, c4, is, a5, c5, es, M2, rfl, hl, ok, ab, rfl⟩; (refine Q.r ?_; (repeat (intro b1; refine Q.r ?_))); refine N.r1 (by apply RV.cellN; rfl; exact RdC.row; rfl; exact RV.nil) ?_ ⟨a1, c1, rs, a2, c2, ns, a3, c3, ms, a4, c4, is, a5, c5, es, M2, rfl, hl, ok, ab, rfl⟩; exact Go.SX.Ent.go
  rw [if_neg h7]
  refine Q.r ?_; (repeat (intro b1; refine Q.r ?_))
  exact N.r1 (by apply RV.cellN; rfl; exact RdC.row; rfl; exact RV.nil) (by exact Go.SX.Ent.go) e5
end Go.Proofs.YtiampehfpgcogaaDoor
namespace Go.Proofs.YtiampehfpgcogaaDoor
open Go Go.SX
attribute [local irreducible] swp opsS thenS blockS retS CallsS St Ent YieldS anyS drawS
structure WT (x : Int) (t : TR) : Prop where
  xx : t.txn = x
  x0 : 0 ≤ x
  st : 0 ≤ t.stamp
  r : Rise t.parts
  pl : t.parts.length ≤ 4
  pb : ∀ q ∈ t.parts, 0 ≤ q ∧ q < 16
  yr : Rise t.yes
  ys : ∀ q ∈ t.yes, q ∈ t.parts
  kr : Rise t.acked
  ks : ∀ q ∈ t.acked, q ∈ t.parts
  ol : t.ops.length ≤ 16
structure WG (j : JG) : Prop where
  b : JB j
  kt : keysOK j.tr
  kd : keysOK j.done
  tx : ∀ u ∈ j.tr, WT u.1 u.2
  dp : ∀ u ∈ j.done, 0 < u.2
theorem WG.lk {j : JG} (h : WG j) {x : Int} {t : TR} (ht : lkL j.tr x = some t) : WT x t := h.tx _ ((lkL_iff h.kt).1 ht)
theorem CloneO_spec (a : Option Addr) (c : Nat) (xs : List OV) (A : List HP) (h : RdS A a xs.length 2 (xs.flatMap OV.cells)) (hn : xs.length ≤ 1000000) :
    CallsS Tryd.prog 43 [.slice a xs.length c] A (fun v L' => ∃ a' c', v = .slice a' xs.length c' ∧ L' = slO 57 2 a' xs.length c' (xs.flatMap OV.cells) :: A) := by
  refine CallsS.of_body Tryd.func43 rfl rfl rfl ?_
  cases a with
  | none =>
    have hx : xs = [] := by
      rcases h.2 with h0 | ⟨_, _, h0, _⟩
      · exact List.eq_nil_of_length_eq_zero h0
      · cases h0
    subst hx
    refine Q.r ?_; (repeat (intro b1; refine Q.r ?_))
    exact N.r1 (RV.tmp rfl RV.nil) slO_nil ⟨none, 0, rfl, rfl⟩
  | some ad =>
    refine Q.r ?_; (repeat (intro b1; refine Q.r ?_))
    refine opsS_ent (slO_fold (sz := 2) (m := 0) rfl) ?_
    refine S.app0 rfl rfl rfl (SrcS.rd h.sub (OV_one _)) (by rfl) (by omega) (by omega) (fun a5 c5 => ?_)
    refine Q.r ?_; (repeat (intro b1; refine Q.r ?_))
    exact N.r1 (RV.tmp rfl RV.nil) (Ent.refl _) ⟨a5, c5, rfl, rfl⟩
theorem and20 {a : Int} (h0 : 0 ≤ a) (h1 : a < 18446744073709551616) : IntKind.u64.wrap ((BitVec.ofInt IntKind.u64.bits a) &&& (BitVec.ofInt IntKind.u64.bits 1048575)).toNat = a % 1048576 := by
  obtain ⟨k, rfl⟩ := Int.eq_ofNat_of_zero_le h0
  have hk : k < 2 ^ 64 := by omega
  show IntKind.u64.wrap ((BitVec.ofInt 64 (k : Int)) &&& (BitVec.ofInt 64 1048575)).toNat = _
  have e1 : (BitVec.ofInt 64 (k : Int)).toNat = k := by
    rw [BitVec.toNat_ofInt]; omega
  have e2 : (BitVec.ofInt 64 (1048575 : Int)).toNat = 2 ^ 20 - 1 := by decide
  rw [BitVec.toNat_and, e1, e2, Nat.and_two_pow_sub_one_eq_mod, wrap_u64 (by omega) (by omega)]
  omega
def appR (n : NA) (M : Nat → Option Obj) (p : Nat) (j : JG) (L : List HP) (r : Value) (L' : List HP) : Prop := ∃ M' : Nat → Option Obj, r = .int .i64 (appGE j n) ∧ leM M M' ∧ L' = jdgH M' p (appG j n) :: roM M' :: L
theorem lk_none {ts : List TB} {tr : List (Int × TR)} (h : ts.map (fun u => (u.1, u.2.2.abs)) = tr) {x : Int} (hx : lkL tr x = none) : ∀ u ∈ ts, u.1 ≠ x := by
  intro u hu e
  have hm : (x, u.2.2.abs) ∈ tr := by rw [← h, ← e]; exact List.mem_map_of_mem (f := fun u : TB => (u.1, u.2.2.abs)) hu
  unfold lkL at hx
  rw [Option.map_eq_none_iff, List.find?_eq_none] at hx
  have := hx _ hm
  simp at this
theorem GQ'.new {M : Nat → Option Obj} {j j' : JG} {ts : List TB} (h : GQ' M j ts) {x : Int} {b : Nat} {t : TV} (hx : lkL j.tr x = none) (ht : okT M t) (hs : j'.shards = j.shards) (htr : j'.tr = putL j.tr x t.abs) : GQ' M j' (ts ++ [(x, b, t)]) := by
  refine ⟨by rw [hs]; exact h.s1, by rw [hs]; exact h.s2, ?_, fun u hu => ?_⟩
  · rw [htr, List.map_append, h.tr, putL_none]
    · rfl
    · intro u hu e
      rw [← h.tr] at hu
      obtain ⟨w, hw, rfl⟩ := List.mem_map.1 hu
      exact lk_none h.tr hx w hw e
  · rcases List.mem_append.1 hu with hu | hu
    · exact h.ok u hu
    · rw [List.mem_singleton] at hu; subst hu; exact ht
set_option maxHeartbeats 4000000 in
theorem Gbegin_spec (n : NV) (M : Nat → Option Obj) (p : Nat) (j : JG) (L : List HP) (hw : WG j) (hn : okN M n) (hN : OkN n) (h0 : 0 ≤ n.txn) (h1 : n.txn < 18446744073709551616) (hr : rightN n.abs = true) (hk : n.kind = 19) :
    CallsS Tryd.prog 24 [ptrG p, n.val] (jdgH M p j :: roM M :: L) (appR n.abs M p j L) := by
  unfold appR
  refine calls_jdg fun mt md ts hq => ?_
  refine CallsS.of_body Tryd.func24 rfl rfl rfl ?_
  have hnp := hN.p
  have hno := hN.o
  refine Q.r ?_; (repeat (intro b1; refine Q.r ?_))
  refine Q.dgo [true, true, true, true, true, true] [] [] [0, 1, 2, 3, 4, 5, 6, 7] ?_
  refine Q.rd ?_; (repeat (intro b1; refine Q.rd ?_))
  refine D.y rfl rfl rfl (by kernel_rfl) (Y.lk false rfl rfl (fun w => Tryd.zeroValue70 w)) ?_
  have hlk := lk_tr hq.tr n.txn
  cases hz : lkL (α := Nat × TV) ts n.txn with
  | some u =>
    rw [hz] at hlk
    dsimp only
    have hE : appGE j n.abs = 7 := by rw [appGE19 hr hk, show n.abs.txn = n.txn from rfl, hlk]; rfl
    refine Q.rd ?_; (repeat (intro b1; refine Q.rd ?_))
    refine Q.r ?_; (repeat (intro b1; refine Q.r ?_))
    exact N.r1 (RV.tmp rfl RV.nil) (Ent.trans (M := gP p j mt md :: gT mt ts :: trsH ts :: gD md j.done :: roM M :: L) (by exact Go.SX.Ent.go) (jdg_shut hq)) ⟨M, by rw [hE], leM.refl M, by rw [appGno (by rw [hE]; decide)]⟩
  | none =>
    rw [hz] at hlk
    have hE : appGE j n.abs = 0 := by rw [appGE19 hr hk, show n.abs.txn = n.txn from rfl, hlk]; rfl
    have hS := appG19 hE hk
    have hput : ∀ v : Nat × TV, putL ts n.txn v = ts ++ [(n.txn, v)] := fun v => putL_none (lk_none hq.tr hlk)
    dsimp only
    refine Q.rd ?_; (repeat (intro b1; refine Q.rd ?_))
    refine Q.r ?_; (repeat (intro b1; refine Q.r ?_))
    revert b1
    intro b3
    refine swp_cutT (σ := Nat × TV × (Nat → Option Obj)) (fun s => [(0, ptrG p), (3, .pointer (some ⟨b3, 0, none⟩))])
      (fun s => pt b3 (cl n.cells 39) :: gP p j mt md :: gT mt (ts ++ [(n.txn, s.1, s.2.1)]) :: trsH (ts ++ [(n.txn, s.1, s.2.1)]) :: gD md j.done :: roM s.2.2 :: L) (fun s => leM M s.2.2 ∧ okT s.2.2 s.2.1 ∧ s.2.1.abs = begT n.abs) ?_ ?_
    · refine Q.dgo [true, true] [16, 20, 22, 23] [] [0, 1, 2, 3, 4, 5, 6, 7, 8, 9, 10, 11, 12, 13, 14, 15, 18, 19, 16, 17, 20, 21, 22, 23] ?_
      refine Q.rd ?_; (repeat (intro b1; refine Q.rd ?_))
      refine D.e rfl rfl rfl ?_
      refine S.cr rfl (CloneP_spec n.pa n.pc n.parts _ hn.rd.p hnp) ?_
      rintro _ _ ⟨pa, pc, rfl, rfl⟩
      refine opsS_abs pa (fun M1 hl1 hs1 => ?_)
      have hn1 := hn.mono hl1
      refine Q.r ?_; (repeat (intro b1; refine Q.r ?_))
      refine Q.rd ?_; (repeat (intro b1; refine Q.rd ?_))
      refine D.e rfl rfl rfl ?_
      refine S.cr rfl (CloneO_spec n.oa n.oc n.ops _ hn1.rd.o.1 hno) ?_
      rintro _ _ ⟨oa, oc, rfl, rfl⟩
      refine opsS_abs oa (fun M2 hl2 hs2 => ?_)
      have hn2 := hn1.mono hl2
      refine Q.r ?_; (repeat (intro b1; refine Q.r ?_))
      refine Q.rd ?_; (repeat (intro b1; refine Q.rd ?_))
      refine D.e rfl rfl rfl ?_
      refine S.mu (r := ptT) (u := (b1, (⟨n.txn, n.batch, 0, n.after, n.who, pa, pc, n.parts, none, 0, [], none, 0, [], oa, oc, n.ops⟩ : TV))) rfl rfl rfl ?_
      rw [hput]
      refine Q.r ?_; (repeat (intro b1; refine Q.r ?_))
      refine Q.rd ?_; (repeat (intro b1; refine Q.rd ?_))
      refine N.tn ⟨(b1, ⟨n.txn, n.batch, 0, n.after, n.who, pa, pc, n.parts, none, 0, [], none, 0, [], oa, oc, n.ops⟩, M2), ⟨rfl, rfl, trivial⟩, ?_, hl1.trans hl2, ⟨hs1.mono hl2, SlM.nil0, SlM.nil0, hs2, hn2.o.2, hnp, Nat.zero_le _, Nat.zero_le _, hno⟩, rfl⟩
      dsimp only
      exact Ent.trans (M := oneT (b1, (⟨n.txn, n.batch, 0, n.after, n.who, pa, pc, n.parts, none, 0, [], none, 0, [], oa, oc, n.ops⟩ : TV)) :: trsH ts :: pt b3 (cl n.cells 39) :: gP p j mt md :: gT mt (ts ++ [(n.txn, b1, ⟨n.txn, n.batch, 0, n.after, n.who, pa, pc, n.parts, none, 0, [], none, 0, [], oa, oc, n.ops⟩)]) :: gD md j.done :: roM M2 :: L) (by exact Go.SX.Ent.go) (Ent.trans (trs_new ts (n.txn, b1, _)) (by exact Go.SX.Ent.go))
    · rintro ⟨bt, tv, M2⟩ ⟨hl2, htv, hta⟩
      dsimp only at hl2 htv hta ⊢
      have hfd : n.txn.fdiv (2 ^ 20) = n.txn / 1048576 := by rw [Int.fdiv_eq_ediv_of_nonneg _ (by decide)]; rfl
      have hq2 : ∀ sq : Int, GQ' M2 { j with tr := putL j.tr n.txn (begT n.abs), seq := sq } (ts ++ [(n.txn, bt, tv)]) := fun sq => (hq.mono hl2).new hlk htv rfl (by rw [hta])
      refine Q.r ?_; (repeat (intro b1; refine Q.r ?_))
      by_cases he : n.txn / 1048576 = j.epoch
      · refine Q.dgo [true, true] [] [] [0, 1, 2, 3, 4, 5, 6, 7] ?_
        refine Q.rd ?_; (repeat (intro b1; refine Q.rd ?_))
        refine D.y rfl rfl rfl (by kernel_rfl) (Y.shrI (b := 20) rfl rfl (by decide)) ?_
        rw [hfd]
        refine Q.rd ?_; (repeat (intro b1; refine Q.rd ?_))
        refine Q.r ?_; (repeat (intro b1; refine Q.r ?_))
        refine Q.dgo [true, true] [11] [11] [0, 1, 2, 3, 4, 5, 6, 7, 8, 9, 10, 11] ?_
        refine Q.rd ?_; (repeat (intro b1; refine Q.rd ?_))
        refine D.y rfl rfl rfl (by kernel_rfl) (Y.and rfl rfl) ?_
        rw [and20 h0 h1]
        refine Q.rd ?_; (repeat (intro b1; refine Q.rd ?_))
        refine Q.dc rfl rfl rfl rfl ?_
        refine Q.r ?_; (repeat (intro b1; refine Q.r ?_))
        refine Q.rd ?_; (repeat (intro b1; refine Q.rd ?_))
        refine Q.r ?_; (repeat (intro b1; refine Q.r ?_))
        refine N.r1 (RV.tmp rfl RV.nil) (Ent.trans (M := gP p { j with tr := putL j.tr n.txn (begT n.abs), seq := max j.seq (n.txn % 1048576) } mt md :: gT mt (ts ++ [(n.txn, bt, tv)]) :: trsH (ts ++ [(n.txn, bt, tv)]) :: gD md j.done :: roM M2 :: L) (by exact Go.SX.Ent.go) (jdg_shut (hq2 _))) ⟨M2, by rw [hE], hl2, ?_⟩
        rw [hS, show n.abs.txn = n.txn from rfl, if_pos he]
      · refine Q.dgo [true, true] [] [] [0, 1, 2, 3, 4, 5, 6, 7] ?_
        refine Q.rd ?_; (repeat (intro b1; refine Q.rd ?_))
        refine D.y rfl rfl rfl (by kernel_rfl) (Y.shrI (b := 20) rfl rfl (by decide)) ?_
        rw [hfd]
        refine Q.rd ?_; (repeat (intro b1; refine Q.rd ?_))
        refine Q.r ?_; (repeat (intro b1; refine Q.r ?_))
        refine N.r1 (RV.tmp rfl RV.nil) (Ent.trans (M := gP p { j with tr := putL j.tr n.txn (begT n.abs), seq := j.seq } mt md :: gT mt (ts ++ [(n.txn, bt, tv)]) :: trsH (ts ++ [(n.txn, bt, tv)]) :: gD md j.done :: roM M2 :: L) (by exact Go.SX.Ent.go) (jdg_shut (hq2 _))) ⟨M2, by rw [hE], hl2, ?_⟩
        rw [hS, show n.abs.txn = n.txn from rfl, if_neg he]
end Go.Proofs.YtiampehfpgcogaaDoor
namespace Go.SX
open Go
theorem mpO_cong {κ α : Type} [DecidableEq κ] {g : κ → Value} {r : α → Value} {b : Nat} {m m' : List (κ × α)} (h : m.map (fun p => (g p.1, r p.2)) = m'.map (fun p => (g p.1, r p.2))) (hk : m.map (·.1) = m'.map (·.1)) {L : List HP} : Ent (mpO g r b m :: L) (mpO g r b m' :: L) := fun w F H =>
  St.of_sep (L := mpO g r b m :: (L ++ F)) (fun hh ⟨h1, h2, ok, e, ⟨es, c, ⟨a1, a2, a3⟩, a4⟩, l⟩ => ⟨h1, h2, ok, e, ⟨es, c, ⟨a1.trans h, by unfold keysOK at *; rw [← hk]; exact a2, a3⟩, a4⟩, l⟩) H
end Go.SX
namespace Go.Proofs.YtiampehfpgcogaaDoor
open Go Go.SX
attribute [local irreducible] swp opsS thenS blockS retS CallsS St Ent YieldS anyS drawS
theorem gT_set {ts : List TB} {k b mt : Nat} {x : Int} {t t' : TV} (h : ts[k]? = some (x, b, t)) {L : List HP} : Ent (gT mt ts :: L) (gT mt (ts.set k (x, b, t')) :: L) := by
  have hk : k < ts.length := (List.getElem?_eq_some_iff.1 h).1
  have he := (List.getElem?_eq_some_iff.1 h).2
  refine mpO_cong ?_ ?_
  · rw [List.map_set]
    have : (U64 x, ptT (b, t')) = (ts.map fun p : TB => (U64 p.1, ptT p.2))[k]'(by simpa using hk) := by rw [List.getElem_map, he]
    rw [this, List.set_getElem_self]
  · rw [List.map_set]
    have : x = (ts.map fun p : TB => p.1)[k]'(by simpa using hk) := by rw [List.getElem_map, he]
    rw [this, List.set_getElem_self]
theorem trs_upd {ts : List TB} {k b mt p md : Nat} {x : Int} {t t' : TV} {M : Nat → Option Obj} {j : JG} (h : ts[k]? = some (x, b, t)) (hq : GQ' M j (ts.set k (x, b, t'))) {L : List HP} : Ent (gP p j mt md :: gT mt ts :: oneT (b, t') :: trsH (ts.eraseIdx k) :: gD md j.done :: L) (jdgH M p j :: L) := by
  have hk : k < ts.length := (List.getElem?_eq_some_iff.1 h).1
  exact Ent.trans (Ent.cons ((gT_set (t' := t') h).trans (Ent.cons (trs_in hk (x, b, t'))))) (jdg_shut hq)
theorem GQ'.upd {M : Nat → Option Obj} {j j' : JG} {ts : List TB} (h : GQ' M j ts) (hk : keysOK j.tr) {k : Nat} {x : Int} {b : Nat} {t t' : TV} (hx : ts[k]? = some (x, b, t)) (ht : okT M t') (hs : j'.shards = j.shards) (htr : j'.tr = putL j.tr x t'.abs) : GQ' M j' (ts.set k (x, b, t')) := by
  refine ⟨by rw [hs]; exact h.s1, by rw [hs]; exact h.s2, ?_, fun u hu => ?_⟩
  · rw [htr, List.map_set, h.tr]
    have hkl : k < ts.length := (List.getElem?_eq_some_iff.1 hx).1
    have hkt : k < j.tr.length := by rw [← h.tr, List.length_map]; exact hkl
    have he : j.tr[k] = (x, t.abs) := by
      have e2 := (List.getElem?_eq_some_iff.1 hx).2
      simp only [← h.tr, List.getElem_map, e2]
    rcases keyCase j.tr hk x with ⟨p, a, q, hpq, hp, hqn⟩ | hn
    · rw [hpq, putL_mid hp hqn]
      have hkp : k = p.length := by
        have hm : j.tr[k]? = some (x, t.abs) := by rw [List.getElem?_eq_getElem hkt, he]
        rw [hpq] at hm
        rcases Nat.lt_trichotomy k p.length with h1 | h1 | h1
        · rw [List.getElem?_append_left h1] at hm
          exact absurd rfl (hp _ (List.mem_of_getElem? hm))
        · exact h1
        · rw [List.getElem?_append_right (by omega)] at hm
          obtain ⟨d, hd⟩ : ∃ d, k - p.length = d + 1 := ⟨k - p.length - 1, by omega⟩
          rw [hd, List.getElem?_cons_succ] at hm
          exact absurd rfl (hqn _ (List.mem_of_getElem? hm))
      subst hkp
      rw [List.set_append_right _ _ (Nat.le_refl _), Nat.sub_self, List.set_cons_zero]
    · exact absurd rfl (hn (x, t.abs) (by rw [← he]; exact List.getElem_mem hkt))
  · rcases List.mem_or_eq_of_mem_set hu with hu | hu
    · exact h.ok u hu
    · subst hu; exact ht
set_option maxHeartbeats 4000000 in
theorem Gsaid_spec (n : NV) (u : Nat × TV) (x : Int) (M : Nat → Option Obj) (L : List HP) (ht : okT M u.2) (hw : WT x u.2.abs) (hk : n.kind = 20 ∨ n.kind = 21) :
    CallsS Tryd.prog 26 [ptT u, n.val] (oneT u :: roM M :: L) (fun r L' => ∃ (M' : Nat → Option Obj) (t' : TV), r = .int .i64 (saidE u.2.abs n.abs) ∧ leM M M' ∧ okT M' t' ∧ t'.abs = (if saidE u.2.abs n.abs = 0 then saidT u.2.abs n.abs else u.2.abs) ∧ (saidE u.2.abs n.abs ≠ 0 → t' = u.2) ∧ L' = oneT (u.1, t') :: roM M' :: L) := by
  have hpl := ht.pl
  have hyl := ht.yl
  have hkl := ht.kl
  have hy4 : u.2.yes.length ≤ 4 := Nat.le_trans (nodup_le (rise_nodup hw.yr) hw.ys) hw.pl
  have hk4 : u.2.acked.length ≤ 4 := Nat.le_trans (nodup_le (rise_nodup hw.kr) hw.ks) hw.pl
  refine CallsS.of_body Tryd.func26 rfl rfl rfl ?_
  have e : ∀ (E : Int), saidE u.2.abs n.abs = E → (if saidE u.2.abs n.abs = 0 then saidT u.2.abs n.abs else u.2.abs) = if E = 0 then saidT u.2.abs n.abs else u.2.abs := fun E h => by rw [h]
  rcases hk with hk | hk
  · have hE : saidE u.2.abs n.abs = if 0 < u.2.stamp then 10 else if n.who ∉ u.2.parts ∨ n.who ∈ u.2.yes then 1 else 0 := by
      unfold saidE
      rw [show n.abs.kind = 20 from hk]
      by_cases h : 0 < u.2.stamp <;> simp [h]
    have hT : saidT u.2.abs n.abs = { u.2.abs with yes := putI u.2.yes n.who } := by
      unfold saidT
      rw [show n.abs.kind = 20 from hk]; rfl
    by_cases h1 : 0 < u.2.stamp
    · rw [if_pos h1] at hE
      refine Q.r ?_; (repeat (intro b1; refine Q.r ?_))
      refine Q.dgo [true, true] [] [] [0, 1, 2, 3, 4, 5, 6, 7, 8, 9, 10] ?_
      refine Q.rd ?_; (repeat (intro b1; refine Q.rd ?_))
      refine Q.r ?_; (repeat (intro b1; refine Q.r ?_))
      exact N.r1 (RV.tmp rfl RV.nil) (Ent.drop (Ent.refl _)) ⟨M, u.2, by rw [hE], leM.refl M, ht, by rw [e _ hE]; rfl, fun _ => rfl, rfl⟩
    rw [if_neg h1] at hE
    by_cases h2 : n.who ∈ u.2.parts
    · by_cases h3 : n.who ∈ u.2.yes
      · rw [if_pos (.inr h3)] at hE
        refine Q.r ?_; (repeat (intro b1; refine Q.r ?_))
        refine Q.dgo [true, true] [] [] [0, 1, 2, 3, 4, 5, 6, 7, 8, 9, 10] ?_
        refine Q.rd ?_; (repeat (intro b1; refine Q.rd ?_))
        refine Q.r ?_; (repeat (intro b1; refine Q.r ?_))
        refine Q.dgo [true, true] [7, 15] [] [0, 1, 2, 3, 4, 5, 6, 7, 8, 9, 10, 11, 12, 13, 14, 15, 16, 17] ?_
        refine Q.rd ?_; (repeat (intro b1; refine Q.rd ?_))
        refine D.e rfl rfl rfl ?_
        refine S.cr rfl (ContainsP_spec u.2.pa u.2.pc u.2.parts n.who _ ht.p.rd hpl) ?_
        rintro _ _ ⟨rfl, rfl⟩
        rw [decide_eq_true h2]
        refine Q.r ?_; (repeat (intro b1; refine Q.r ?_))
        refine Q.rd ?_; (repeat (intro b1; refine Q.rd ?_))
        refine D.e rfl rfl rfl ?_
        refine S.guard rfl ?_
        refine S.cr rfl (ContainsP_spec u.2.ya u.2.yc u.2.yes n.who _ ht.y.rd hyl) ?_
        rintro _ _ ⟨rfl, rfl⟩
        rw [decide_eq_true h3]
        refine Q.r ?_; (repeat (intro b1; refine Q.r ?_))
        refine Q.rd ?_; (repeat (intro b1; refine Q.rd ?_))
        refine Q.r ?_; (repeat (intro b1; refine Q.r ?_))
        exact N.r1 (RV.tmp rfl RV.nil) (Ent.trans (M := oneT u :: roM M :: L) (by exact Go.SX.Ent.go) (Ent.refl _)) ⟨M, u.2, by rw [hE], leM.refl M, ht, by rw [e _ hE]; rfl, fun _ => rfl, rfl⟩
      · rw [if_neg (fun h => h.elim (fun h => h h2) h3)] at hE
        refine Q.r ?_; (repeat (intro b1; refine Q.r ?_))
        refine Q.dgo [true, true] [] [] [0, 1, 2, 3, 4, 5, 6, 7, 8, 9, 10] ?_
        refine Q.rd ?_; (repeat (intro b1; refine Q.rd ?_))
        refine Q.r ?_; (repeat (intro b1; refine Q.r ?_))
        refine Q.dgo [true, true] [7, 15] [] [0, 1, 2, 3, 4, 5, 6, 7, 8, 9, 10, 11, 12, 13, 14, 15, 16, 17] ?_
        refine Q.rd ?_; (repeat (intro b1; refine Q.rd ?_))
        refine D.e rfl rfl rfl ?_
        refine S.cr rfl (ContainsP_spec u.2.pa u.2.pc u.2.parts n.who _ ht.p.rd hpl) ?_
        rintro _ _ ⟨rfl, rfl⟩
        rw [decide_eq_true h2]
        refine Q.r ?_; (repeat (intro b1; refine Q.r ?_))
        refine Q.rd ?_; (repeat (intro b1; refine Q.rd ?_))
        refine D.e rfl rfl rfl ?_
        refine S.guard rfl ?_
        refine S.cr rfl (ContainsP_spec u.2.ya u.2.yc u.2.yes n.who _ ht.y.rd hyl) ?_
        rintro _ _ ⟨rfl, rfl⟩
        rw [decide_eq_false h3]
        refine Q.r ?_; (repeat (intro b1; refine Q.r ?_))
        refine Q.rd ?_; (repeat (intro b1; refine Q.rd ?_))
        refine Q.r ?_; (repeat (intro b1; refine Q.r ?_))
        refine Q.dgo [true, true] [6, 8] [8] [0, 1, 2, 3, 4, 5, 6, 7, 8] ?_
        refine Q.rd ?_; (repeat (intro b1; refine Q.rd ?_))
        refine D.e rfl rfl rfl ?_
        refine S.cr rfl (Gput_spec u.2.ya u.2.yc u.2.yes n.who _ ht.y.rd hyl hw.yr) ?_
        rintro _ _ ⟨na, nc, rfl, rfl⟩
        refine opsS_abs na (fun M1 hl1 hs1 => ?_)
        refine Q.r ?_; (repeat (intro b1; refine Q.r ?_))
        refine Q.rd ?_; (repeat (intro b1; refine Q.rd ?_))
        refine Q.dc rfl rfl rfl rfl ?_
        refine Q.r ?_; (repeat (intro b1; refine Q.r ?_))
        refine Q.rd ?_; (repeat (intro b1; refine Q.rd ?_))
        refine Q.r ?_; (repeat (intro b1; refine Q.r ?_))
        rw [← putI_len (l := u.2.yes) (n := n.who)]
        have ht1 := ht.mono hl1
        refine N.r1 (RV.tmp rfl RV.nil) (Ent.trans (M := oneT (u.1, { u.2 with ya := na, yc := nc, yes := putI u.2.yes n.who }) :: roM M1 :: L) (by exact Go.SX.Ent.go) (Ent.refl _)) ⟨M1, { u.2 with ya := na, yc := nc, yes := putI u.2.yes n.who }, by rw [hE], hl1, ?_, by rw [e _ hE, hT]; rfl, fun h => absurd hE h, rfl⟩
        exact ⟨ht1.p, (by have h := hs1; rw [← putI_len (l := u.2.yes) (n := n.who)] at h; exact h), ht1.k, ht1.o, ht1.ov, ht1.pl, by show (putI u.2.yes n.who).length ≤ _; rw [putI_len]; omega, ht1.kl, ht1.ol⟩
    · rw [if_pos (.inl h2)] at hE
      refine Q.r ?_; (repeat (intro b1; refine Q.r ?_))
      refine Q.dgo [true, true] [] [] [0, 1, 2, 3, 4, 5, 6, 7, 8, 9, 10] ?_
      refine Q.rd ?_; (repeat (intro b1; refine Q.rd ?_))
      refine Q.r ?_; (repeat (intro b1; refine Q.r ?_))
      refine Q.dgo [true, true] [7, 15] [] [0, 1, 2, 3, 4, 5, 6, 7, 8, 9, 10, 11, 12, 13, 14, 15, 16, 17] ?_
      refine Q.rd ?_; (repeat (intro b1; refine Q.rd ?_))
      refine D.e rfl rfl rfl ?_
      refine S.cr rfl (ContainsP_spec u.2.pa u.2.pc u.2.parts n.who _ ht.p.rd hpl) ?_
      rintro _ _ ⟨rfl, rfl⟩
      rw [decide_eq_false h2]
      refine Q.r ?_; (repeat (intro b1; refine Q.r ?_))
      refine Q.rd ?_; (repeat (intro b1; refine Q.rd ?_))
      refine Q.r ?_; (repeat (intro b1; refine Q.r ?_))
      exact N.r1 (RV.tmp rfl RV.nil) (Ent.trans (M := oneT u :: roM M :: L) (by exact Go.SX.Ent.go) (Ent.refl _)) ⟨M, u.2, by rw [hE], leM.refl M, ht, by rw [e _ hE]; rfl, fun _ => rfl, rfl⟩
  · have hE : saidE u.2.abs n.abs = if ¬ 0 < u.2.stamp then 10 else if n.who ∉ u.2.parts ∨ n.who ∈ u.2.acked then 1 else 0 := by
      unfold saidE
      rw [show n.abs.kind = 21 from hk]
      by_cases h : 0 < u.2.stamp <;> simp [h]
    have hT : saidT u.2.abs n.abs = { u.2.abs with acked := putI u.2.acked n.who } := by
      unfold saidT
      rw [show n.abs.kind = 21 from hk]; rfl
    by_cases h1 : ¬ 0 < u.2.stamp
    · rw [if_pos h1] at hE
      refine Q.r ?_; (repeat (intro b1; refine Q.r ?_))
      refine Q.dgo [true, true] [] [] [0, 1, 2, 3, 4, 5, 6, 7, 8, 9, 10] ?_
      refine Q.rd ?_; (repeat (intro b1; refine Q.rd ?_))
      refine Q.r ?_; (repeat (intro b1; refine Q.r ?_))
      exact N.r1 (RV.tmp rfl RV.nil) (Ent.drop (Ent.refl _)) ⟨M, u.2, by rw [hE], leM.refl M, ht, by rw [e _ hE]; rfl, fun _ => rfl, rfl⟩
    rw [if_neg h1] at hE
    by_cases h2 : n.who ∈ u.2.parts
    · by_cases h3 : n.who ∈ u.2.acked
      · rw [if_pos (.inr h3)] at hE
        refine Q.r ?_; (repeat (intro b1; refine Q.r ?_))
        refine Q.dgo [true, true] [] [] [0, 1, 2, 3, 4, 5, 6, 7, 8, 9, 10] ?_
        refine Q.rd ?_; (repeat (intro b1; refine Q.rd ?_))
        refine Q.r ?_; (repeat (intro b1; refine Q.r ?_))
        refine Q.dgo [true, true] [7, 15] [] [0, 1, 2, 3, 4, 5, 6, 7, 8, 9, 10, 11, 12, 13, 14, 15, 16, 17] ?_
        refine Q.rd ?_; (repeat (intro b1; refine Q.rd ?_))
        refine D.e rfl rfl rfl ?_
        refine S.cr rfl (ContainsP_spec u.2.pa u.2.pc u.2.parts n.who _ ht.p.rd hpl) ?_
        rintro _ _ ⟨rfl, rfl⟩
        rw [decide_eq_true h2]
        refine Q.r ?_; (repeat (intro b1; refine Q.r ?_))
        refine Q.rd ?_; (repeat (intro b1; refine Q.rd ?_))
        refine D.e rfl rfl rfl ?_
        refine S.guard rfl ?_
        refine S.cr rfl (ContainsP_spec u.2.ka u.2.kc u.2.acked n.who _ ht.k.rd hkl) ?_
        rintro _ _ ⟨rfl, rfl⟩
        rw [decide_eq_true h3]
        refine Q.r ?_; (repeat (intro b1; refine Q.r ?_))
        refine Q.rd ?_; (repeat (intro b1; refine Q.rd ?_))
        refine Q.r ?_; (repeat (intro b1; refine Q.r ?_))
        exact N.r1 (RV.tmp rfl RV.nil) (Ent.trans (M := oneT u :: roM M :: L) (by exact Go.SX.Ent.go) (Ent.refl _)) ⟨M, u.2, by rw [hE], leM.refl M, ht, by rw [e _ hE]; rfl, fun _ => rfl, rfl⟩
      · rw [if_neg (fun h => h.elim (fun h => h h2) h3)] at hE
        refine Q.r ?_; (repeat (intro b1; refine Q.r ?_))
        refine Q.dgo [true, true] [] [] [0, 1, 2, 3, 4, 5, 6, 7, 8, 9, 10] ?_
        refine Q.rd ?_; (repeat (intro b1; refine Q.rd ?_))
        refine Q.r ?_; (repeat (intro b1; refine Q.r ?_))
        refine Q.dgo [true, true] [7, 15] [] [0, 1, 2, 3, 4, 5, 6, 7, 8, 9, 10, 11, 12, 13, 14, 15, 16, 17] ?_
        refine Q.rd ?_; (repeat (intro b1; refine Q.rd ?_))
        refine D.e rfl rfl rfl ?_
        refine S.cr rfl (ContainsP_spec u.2.pa u.2.pc u.2.parts n.who _ ht.p.rd hpl) ?_
        rintro _ _ ⟨rfl, rfl⟩
        rw [decide_eq_true h2]
        refine Q.r ?_; (repeat (intro b1; refine Q.r ?_))
        refine Q.rd ?_; (repeat (intro b1; refine Q.rd ?_))
        refine D.e rfl rfl rfl ?_
        refine S.guard rfl ?_
        refine S.cr rfl (ContainsP_spec u.2.ka u.2.kc u.2.acked n.who _ ht.k.rd hkl) ?_
        rintro _ _ ⟨rfl, rfl⟩
        rw [decide_eq_false h3]
        refine Q.r ?_; (repeat (intro b1; refine Q.r ?_))
        refine Q.rd ?_; (repeat (intro b1; refine Q.rd ?_))
        refine Q.r ?_; (repeat (intro b1; refine Q.r ?_))
        refine Q.dgo [true, true] [6, 8] [8] [0, 1, 2, 3, 4, 5, 6, 7, 8] ?_
        refine Q.rd ?_; (repeat (intro b1; refine Q.rd ?_))
        refine D.e rfl rfl rfl ?_
        refine S.cr rfl (Gput_spec u.2.ka u.2.kc u.2.acked n.who _ ht.k.rd hkl hw.kr) ?_
        rintro _ _ ⟨na, nc, rfl, rfl⟩
        refine opsS_abs na (fun M1 hl1 hs1 => ?_)
        refine Q.r ?_; (repeat (intro b1; refine Q.r ?_))
        refine Q.rd ?_; (repeat (intro b1; refine Q.rd ?_))
        refine Q.dc rfl rfl rfl rfl ?_
        refine Q.r ?_; (repeat (intro b1; refine Q.r ?_))
        refine Q.rd ?_; (repeat (intro b1; refine Q.rd ?_))
        refine Q.r ?_; (repeat (intro b1; refine Q.r ?_))
        rw [← putI_len (l := u.2.acked) (n := n.who)]
        have ht1 := ht.mono hl1
        refine N.r1 (RV.tmp rfl RV.nil) (Ent.trans (M := oneT (u.1, { u.2 with ka := na, kc := nc, acked := putI u.2.acked n.who }) :: roM M1 :: L) (by exact Go.SX.Ent.go) (Ent.refl _)) ⟨M1, { u.2 with ka := na, kc := nc, acked := putI u.2.acked n.who }, by rw [hE], hl1, ?_, by rw [e _ hE, hT]; rfl, fun h => absurd hE h, rfl⟩
        exact ⟨ht1.p, ht1.y, (by have h := hs1; rw [← putI_len (l := u.2.acked) (n := n.who)] at h; exact h), ht1.o, ht1.ov, ht1.pl, ht1.yl, by show (putI u.2.acked n.who).length ≤ _; rw [putI_len]; omega, ht1.ol⟩
    · rw [if_pos (.inl h2)] at hE
      refine Q.r ?_; (repeat (intro b1; refine Q.r ?_))
      refine Q.dgo [true, true] [] [] [0, 1, 2, 3, 4, 5, 6, 7, 8, 9, 10] ?_
      refine Q.rd ?_; (repeat (intro b1; refine Q.rd ?_))
      refine Q.r ?_; (repeat (intro b1; refine Q.r ?_))
      refine Q.dgo [true, true] [7, 15] [] [0, 1, 2, 3, 4, 5, 6, 7, 8, 9, 10, 11, 12, 13, 14, 15, 16, 17] ?_
      refine Q.rd ?_; (repeat (intro b1; refine Q.rd ?_))
      refine D.e rfl rfl rfl ?_
      refine S.cr rfl (ContainsP_spec u.2.pa u.2.pc u.2.parts n.who _ ht.p.rd hpl) ?_
      rintro _ _ ⟨rfl, rfl⟩
      rw [decide_eq_false h2]
      refine Q.r ?_; (repeat (intro b1; refine Q.r ?_))
      refine Q.rd ?_; (repeat (intro b1; refine Q.rd ?_))
      refine Q.r ?_; (repeat (intro b1; refine Q.r ?_))
      exact N.r1 (RV.tmp rfl RV.nil) (Ent.trans (M := oneT u :: roM M :: L) (by exact Go.SX.Ent.go) (Ent.refl _)) ⟨M, u.2, by rw [hE], leM.refl M, ht, by rw [e _ hE]; rfl, fun _ => rfl, rfl⟩
end Go.Proofs.YtiampehfpgcogaaDoor
namespace Go.Proofs.YtiampehfpgcogaaDoor
open Go Go.SX
attribute [local irreducible] swp opsS thenS blockS retS CallsS St Ent YieldS anyS drawS
set_option maxHeartbeats 4000000 in
theorem Gcommit_spec (n : NV) (M : Nat → Option Obj) (p : Nat) (j : JG) (L : List HP) (hw : WG j) (hn : okN M n) (hN : OkN n) (h0 : 0 ≤ n.stamp) (hr : rightN n.abs = true) (hk : n.kind = 17) :
    CallsS Tryd.prog 25 [ptrG p, n.val] (jdgH M p j :: roM M :: L) (appR n.abs M p j L) := by
  unfold appR
  refine calls_jdg fun mt md ts hq => ?_
  refine CallsS.of_body Tryd.func25 rfl rfl rfl ?_
  have hnp := hN.p
  have hE := appGE17 (j := j) hr (n := n.abs) hk
  unfold comE at hE
  refine Q.r ?_; (repeat (intro b1; refine Q.r ?_))
  refine Q.dgo [true, true, true, true, true, true] [] [] [0, 1, 2, 3, 4, 5, 6, 7] ?_
  refine Q.rd ?_; (repeat (intro b1; refine Q.rd ?_))
  refine D.y rfl rfl rfl (by kernel_rfl) (Y.lk false rfl rfl (fun w => Tryd.zeroValue70 w)) ?_
  have hlk := lk_tr hq.tr n.txn
  rw [show n.abs.txn = n.txn from rfl] at hE
  by_cases hs0 : n.stamp = 0
  · rw [if_pos hs0] at hE
    have fin : ∀ {f : Env} {Q : Post}, True := trivial
    cases hz : lkL (α := Nat × TV) ts n.txn with
    | some u =>
      dsimp only
      refine Q.rd ?_; (repeat (intro b1; refine Q.rd ?_))
      refine Q.r ?_; (repeat (intro b1; refine Q.r ?_))
      exact N.r1 (RV.tmp rfl RV.nil) (Ent.trans (M := gP p j mt md :: gT mt ts :: trsH ts :: gD md j.done :: roM M :: L) (by exact Go.SX.Ent.go) (jdg_shut hq)) ⟨M, by rw [hE], leM.refl M, by rw [appGno (by rw [hE]; decide)]⟩
    | none =>
      dsimp only
      refine Q.rd ?_; (repeat (intro b1; refine Q.rd ?_))
      refine Q.r ?_; (repeat (intro b1; refine Q.r ?_))
      exact N.r1 (RV.tmp rfl RV.nil) (Ent.trans (M := gP p j mt md :: gT mt ts :: trsH ts :: gD md j.done :: roM M :: L) (by exact Go.SX.Ent.go) (jdg_shut hq)) ⟨M, by rw [hE], leM.refl M, by rw [appGno (by rw [hE]; decide)]⟩
  rw [if_neg hs0] at hE
  cases hz : lkL (α := Nat × TV) ts n.txn with
  | some u =>
    obtain ⟨k, hkk⟩ := lk_idx hz
    rw [hz] at hlk
    rw [show lkL j.tr n.txn = some u.2.abs from hlk] at hE
    dsimp only at hE ⊢
    have hwt := hw.lk hlk
    have htv := hq.ok _ (List.mem_of_getElem? hkk)
    refine Q.rd ?_; (repeat (intro b1; refine Q.rd ?_))
    refine Q.r ?_; (repeat (intro b1; refine Q.r ?_))
    refine opsS_trs hkk ?_
    by_cases hst : 0 < u.2.stamp
    · rw [if_pos hst] at hE
      refine Q.r ?_; (repeat (intro b1; refine Q.r ?_))
      exact N.r1 (RV.tmp rfl RV.nil) (Ent.trans (M := gP p j mt md :: gT mt ts :: oneT u :: trsH (ts.eraseIdx k) :: gD md j.done :: roM M :: L) (by exact Go.SX.Ent.go) (jdg_shut1 hkk hq)) ⟨M, by rw [hE], leM.refl M, by rw [appGno (by rw [hE]; decide)]⟩
    rw [if_neg hst] at hE
    have hS := appG17 hE hk
    rw [show n.abs.txn = n.txn from rfl, show lkL j.tr n.txn = some u.2.abs from hlk] at hS
    dsimp only [Option.getD_some] at hS
    refine Q.r ?_; (repeat (intro b1; refine Q.r ?_))
    refine Q.dgo [true, false, true, true] [11] [] [0, 1, 2, 3, 4, 5, 6, 7, 8, 9, 10, 11] ?_
    refine Q.rd ?_; (repeat (intro b1; refine Q.rd ?_))
    refine D.e rfl rfl rfl ?_
    refine S.mu (r := U64) (u := n.stamp) rfl rfl rfl ?_
    refine Q.r ?_; (repeat (intro b1; refine Q.r ?_))
    refine Q.rd ?_; (repeat (intro b1; refine Q.rd ?_))
    refine Q.r ?_; (repeat (intro b1; refine Q.r ?_))
    refine Q.dgo [false, true, true] [10] [10] [0, 1, 2, 3, 4, 5, 6, 7, 8, 9, 10] ?_
    refine Q.rd ?_; (repeat (intro b1; refine Q.rd ?_))
    refine Q.dc rfl rfl rfl rfl ?_
    refine Q.r ?_; (repeat (intro b1; refine Q.r ?_))
    refine Q.rd ?_; (repeat (intro b1; refine Q.rd ?_))
    refine Q.r ?_; (repeat (intro b1; refine Q.r ?_))
    have hq2 : GQ' M { j with tr := putL j.tr n.txn { u.2.abs with stamp := n.stamp }, done := putL j.done u.2.batch n.stamp, last := max j.last n.stamp } (ts.set k (n.txn, u.1, { u.2 with stamp := n.stamp })) := hq.upd hw.kt hkk (t' := { u.2 with stamp := n.stamp }) ⟨htv.p, htv.y, htv.k, htv.o, htv.ov, htv.pl, htv.yl, htv.kl, htv.ol⟩ rfl rfl
    refine N.r1 (RV.tmp rfl RV.nil) (Ent.trans (M := gP p { j with tr := putL j.tr n.txn { u.2.abs with stamp := n.stamp }, done := putL j.done u.2.batch n.stamp, last := max j.last n.stamp } mt md :: gT mt ts :: oneT (u.1, { u.2 with stamp := n.stamp }) :: trsH (ts.eraseIdx k) :: gD md (putL j.done u.2.batch n.stamp) :: roM M :: L) (by exact Go.SX.Ent.go) (trs_upd hkk hq2)) ⟨M, by rw [hE], leM.refl M, by rw [hS]⟩
  | none =>
    rw [hz] at hlk
    rw [show lkL j.tr n.txn = none from hlk] at hE
    dsimp only at hE ⊢
    have hS := appG17 hE hk
    rw [show n.abs.txn = n.txn from rfl, show lkL j.tr n.txn = none from hlk] at hS
    dsimp only [Option.getD_none] at hS
    have hput : ∀ v : Nat × TV, putL ts n.txn v = ts ++ [(n.txn, v)] := fun v => putL_none (lk_none hq.tr hlk)
    refine Q.rd ?_; (repeat (intro b1; refine Q.rd ?_))
    refine Q.r ?_; (repeat (intro b1; refine Q.r ?_))
    refine Q.dgo [true] [6, 9] [] [0, 1, 2, 3, 4, 5, 6, 7, 8, 9, 10] ?_
    refine Q.rd ?_; (repeat (intro b1; refine Q.rd ?_))
    refine D.e rfl rfl rfl ?_
    refine S.cr rfl (CloneP_spec n.pa n.pc n.parts _ hn.rd.p hnp) ?_
    rintro _ _ ⟨pa, pc, rfl, rfl⟩
    refine opsS_abs pa (fun M1 hl1 hs1 => ?_)
    refine Q.r ?_; (repeat (intro b1; refine Q.r ?_))
    refine Q.rd ?_; (repeat (intro b1; refine Q.rd ?_))
    refine Q.r ?_; (repeat (intro b1; refine Q.r ?_))
    refine Q.dgo [true, false, false, true] [7] [] [0, 1, 2, 3, 4, 5, 6, 7] ?_
    refine Q.rd ?_; (repeat (intro b1; refine Q.rd ?_))
    refine D.e rfl rfl rfl ?_
    refine S.mu (r := ptT) (u := (b1, (⟨n.txn, n.batch, n.stamp, 0, 0, pa, pc, n.parts, none, 0, [], none, 0, [], none, 0, []⟩ : TV))) rfl rfl rfl ?_
    rw [hput]
    refine Q.r ?_; (repeat (intro b1; refine Q.r ?_))
    refine Q.rd ?_; (repeat (intro b1; refine Q.rd ?_))
    refine Q.r ?_; (repeat (intro b1; refine Q.r ?_))
    refine Q.dgo [true, true, true] [11] [] [0, 1, 2, 3, 4, 5, 6, 7, 8, 9, 10, 11] ?_
    refine Q.rd ?_; (repeat (intro b1; refine Q.rd ?_))
    refine D.e rfl rfl rfl ?_
    refine S.mu (g := U64) (q := n.batch) (r := U64) (u := n.stamp) rfl rfl rfl ?_
    refine Q.r ?_; (repeat (intro b1; refine Q.r ?_))
    refine Q.rd ?_; (repeat (intro b1; refine Q.rd ?_))
    refine Q.r ?_; (repeat (intro b1; refine Q.r ?_))
    refine Q.dgo [true, true, true] [10] [10] [0, 1, 2, 3, 4, 5, 6, 7, 8, 9, 10] ?_
    refine Q.rd ?_; (repeat (intro b1; refine Q.rd ?_))
    refine Q.dc rfl rfl rfl rfl ?_
    refine Q.r ?_; (repeat (intro b1; refine Q.r ?_))
    refine Q.rd ?_; (repeat (intro b1; refine Q.rd ?_))
    refine Q.r ?_; (repeat (intro b1; refine Q.r ?_))
    have hq2 : GQ' M1 { j with tr := putL j.tr n.txn { comT n.abs with stamp := n.stamp }, done := putL j.done n.batch n.stamp, last := max j.last n.stamp } (ts ++ [(n.txn, b1, ⟨n.txn, n.batch, n.stamp, 0, 0, pa, pc, n.parts, none, 0, [], none, 0, [], none, 0, []⟩)]) := (hq.mono hl1).new hlk ⟨hs1, SlM.nil0, SlM.nil0, SlM.nil0, fun o ho => (by cases ho), hnp, Nat.zero_le _, Nat.zero_le _, Nat.zero_le _⟩ rfl rfl
    refine N.r1 (RV.tmp rfl RV.nil) (Ent.trans (M := oneT (b1, (⟨n.txn, n.batch, n.stamp, 0, 0, pa, pc, n.parts, none, 0, [], none, 0, [], none, 0, []⟩ : TV)) :: trsH ts :: gP p { j with tr := putL j.tr n.txn { comT n.abs with stamp := n.stamp }, done := putL j.done n.batch n.stamp, last := max j.last n.stamp } mt md :: gT mt (ts ++ [(n.txn, b1, ⟨n.txn, n.batch, n.stamp, 0, 0, pa, pc, n.parts, none, 0, [], none, 0, [], none, 0, []⟩)]) :: gD md (putL j.done n.batch n.stamp) :: roM M1 :: L) (by exact Go.SX.Ent.go) (Ent.trans (trs_new ts (n.txn, b1, _)) (Ent.trans (by exact Go.SX.Ent.go) (jdg_shut (p := p) (mt := mt) (md := md) (L := roM M1 :: L) hq2)))) ⟨M1, by rw [hE], hl1, by rw [hS]⟩
end Go.Proofs.YtiampehfpgcogaaDoor
namespace Go.Proofs.YtiampehfpgcogaaDoor
open Go Go.SX
attribute [local irreducible] swp opsS thenS blockS retS CallsS St Ent YieldS anyS drawS
theorem del_erase {ts : List TB} (hk : keysOK ts) {k : Nat} {u : TB} (h : ts[k]? = some u) : delL ts u.1 = ts.eraseIdx k := by
  have hkl : k < ts.length := (List.getElem?_eq_some_iff.1 h).1
  have he := (List.getElem?_eq_some_iff.1 h).2
  rcases keyCase ts hk u.1 with ⟨p, a, q, hpq, hp, hqn⟩ | hn
  · have hkp : k = p.length := by
      rw [hpq] at h
      rcases Nat.lt_trichotomy k p.length with h1 | h1 | h1
      · rw [List.getElem?_append_left h1] at h
        exact absurd rfl (hp _ (List.mem_of_getElem? h))
      · exact h1
      · rw [List.getElem?_append_right (by omega)] at h
        obtain ⟨d, hd⟩ : ∃ d, k - p.length = d + 1 := ⟨k - p.length - 1, by omega⟩
        rw [hd, List.getElem?_cons_succ] at h
        exact absurd rfl (hqn _ (List.mem_of_getElem? h))
    rw [hpq, delL_mid hp hqn, hkp, List.eraseIdx_append_of_length_le (Nat.le_refl _), Nat.sub_self, List.eraseIdx_cons_zero]
  · exact absurd rfl (hn u (List.mem_of_getElem? h))
theorem ts_keys {ts : List TB} {tr : List (Int × TR)} (h : ts.map (fun u => (u.1, u.2.2.abs)) = tr) (hk : keysOK tr) : keysOK ts := by
  have : tr.map (·.1) = ts.map (·.1) := by rw [← h, List.map_map]; rfl
  unfold keysOK at *
  rw [← this]; exact hk
theorem GQ'.del {M : Nat → Option Obj} {j j' : JG} {ts : List TB} (h : GQ' M j ts) {x : Int} (hs : j'.shards = j.shards) (htr : j'.tr = delL j.tr x) : GQ' M j' (delL ts x) :=
  ⟨by rw [hs]; exact h.s1, by rw [hs]; exact h.s2, by rw [htr, ← h.tr]; exact delL_map (fun u : Nat × TV => u.2.abs) ts x, fun u hu => h.ok u (List.mem_filter.1 hu).1⟩
set_option maxHeartbeats 4000000 in
theorem GApply_spec' (n : NV) (M : Nat → Option Obj) (p : Nat) (j : JG) (L : List HP) (hw : WG j) (hn : okN M n) (hN : OkN n) (hT : TabM M) (hu : NumN n) (hu2 : n.txn < 18446744073709551616)
    (hR : n.kind = 16 → rightN n.abs = true → ∀ L : List HP, CallsS Tryd.prog 23 [ptrG p, .int .u64 n.mark] (jdgH M p j :: roM M :: L) (appR n.abs M p j L)) :
    CallsS Tryd.prog 9 [ptrG p, n.val] (jdgH M p j :: roM M :: L) (appR n.abs M p j L) := by
  unfold appR at *
  refine CallsS.of_body Tryd.func9 rfl rfl rfl ?_
  refine Q.r ?_; (repeat (intro b1; refine Q.r ?_))
  refine S.cr rfl (NRight_spec n _ hn.rd hN hT.rd hu.kind) ?_
  rintro _ _ ⟨rfl, rfl⟩
  cases hr : rightN n.abs with
  | false =>
    have hE : appGE j n.abs = 4 := by unfold appGE; rw [if_pos hr]
    refine Q.r ?_; (repeat (intro b1; refine Q.r ?_))
    exact N.r1 (RV.tmp rfl RV.nil) (show Ent _ (jdgH M p j :: roM M :: L) by exact Go.SX.Ent.go) ⟨M, by rw [hE], leM.refl M, by rw [appGno (by rw [hE]; decide)]⟩
  | true =>
  refine Q.r ?_; (repeat (intro b1; refine Q.r ?_))
  refine swp_jdg p (fun mt md ts hq => ?_)
  have hlk := lk_tr hq.tr n.txn
  revert b1
  intro b3
  refine swp_cutT (σ := Unit) (fun _ => [(0, ptrG p), (3, .pointer (some ⟨b3, 0, none⟩)), (5, match lkL (α := Nat × TV) ts n.txn with | none => .pointer none | some u => ptT u)])
    (fun _ => pt b3 (cl n.cells 39) :: gP p j mt md :: gT mt ts :: trsH ts :: gD md j.done :: roM M :: L) (fun _ => True) ?_ ?_
  · refine Q.dgo [true, true, true, true, true, true] [] [] [0, 1, 2, 3, 4, 5, 6, 7] ?_
    refine Q.rd ?_; (repeat (intro b1; refine Q.rd ?_))
    refine D.y rfl rfl rfl (by kernel_rfl) (Y.lk false rfl rfl (fun w => Tryd.zeroValue70 w)) ?_
    cases hz : lkL (α := Nat × TV) ts n.txn with
    | some u =>
      dsimp only
      refine Q.rd ?_; (repeat (intro b1; refine Q.rd ?_))
      exact N.tn ⟨(), ⟨rfl, rfl, rfl, trivial⟩, by (try dsimp only); exact Go.SX.Ent.go, trivial⟩
    | none =>
      dsimp only
      refine Q.rd ?_; (repeat (intro b1; refine Q.rd ?_))
      exact N.tn ⟨(), ⟨rfl, rfl, rfl, trivial⟩, by (try dsimp only); exact Go.SX.Ent.go, trivial⟩
  rintro _ _
  by_cases h16 : n.kind = 16
  · refine Q.r ?_; (repeat (intro b1; refine Q.r ?_))
    refine opsS_ent (gclose (p := p) (mt := mt) (md := md) (ts := ts) hq) ?_
    refine S.cg p rfl (hR h16 hr _) ?_
    rintro _ _ ⟨M1, rfl, hl, rfl⟩
    refine Q.r ?_; (repeat (intro b1; refine Q.r ?_))
    exact N.r1 (RV.tmp rfl RV.nil) (show Ent _ (jdgH M1 p (appG j n.abs) :: roM M1 :: L) by exact Go.SX.Ent.go) ⟨M1, rfl, hl, rfl⟩
  by_cases h19 : n.kind = 19
  · refine Q.r ?_; (repeat (intro b1; refine Q.r ?_))
    refine opsS_ent (gclose (p := p) (mt := mt) (md := md) (ts := ts) hq) ?_
    refine S.cg p rfl (Gbegin_spec n M p j _ hw hn hN hu.txn hu2 hr h19) ?_
    rintro _ _ ⟨M1, rfl, hl, rfl⟩
    refine Q.r ?_; (repeat (intro b1; refine Q.r ?_))
    exact N.r1 (RV.tmp rfl RV.nil) (show Ent _ (jdgH M1 p (appG j n.abs) :: roM M1 :: L) by exact Go.SX.Ent.go) ⟨M1, rfl, hl, rfl⟩
  by_cases h17 : n.kind = 17
  · refine Q.r ?_; (repeat (intro b1; refine Q.r ?_))
    refine opsS_ent (gclose (p := p) (mt := mt) (md := md) (ts := ts) hq) ?_
    refine S.cg p rfl (Gcommit_spec n M p j _ hw hn hN hu.stamp hr h17) ?_
    rintro _ _ ⟨M1, rfl, hl, rfl⟩
    refine Q.r ?_; (repeat (intro b1; refine Q.r ?_))
    exact N.r1 (RV.tmp rfl RV.nil) (show Ent _ (jdgH M1 p (appG j n.abs) :: roM M1 :: L) by exact Go.SX.Ent.go) ⟨M1, rfl, hl, rfl⟩
  have hE0 : ∀ E, (¬ (n.kind = 20 ∨ n.kind = 21 ∨ n.kind = 18 ∨ n.kind = 22) → E = 4) → (n.kind = 20 ∨ n.kind = 21 ∨ n.kind = 18 ∨ n.kind = 22 → lkL j.tr n.txn = none → E = 6) → True := fun _ _ _ => trivial
  by_cases hk : n.kind = 20 ∨ n.kind = 21 ∨ n.kind = 18 ∨ n.kind = 22
  · cases hz : lkL (α := Nat × TV) ts n.txn with
    | none =>
      rw [hz] at hlk
      have hlk1 : lkL j.tr n.txn = none := hlk
      have hE : appGE j n.abs = 6 := by
        unfold appGE
        rw [if_neg (by rw [hr]; decide), if_neg (show ¬ n.abs.kind = 16 from h16), if_neg (show ¬ n.abs.kind = 19 from h19), if_neg (show ¬ n.abs.kind = 17 from h17), if_pos (show n.abs.kind = 20 ∨ n.abs.kind = 21 ∨ n.abs.kind = 18 ∨ n.abs.kind = 22 from hk), show lkL j.tr n.abs.txn = none from hlk1]
      have fin : Ent (pt b3 (cl n.cells 39) :: gP p j mt md :: gT mt ts :: trsH ts :: gD md j.done :: roM M :: L) (jdgH M p j :: roM M :: L) := Ent.drop (jdg_shut hq)
      dsimp only
      rcases hk with hk | hk | hk | hk
      · refine Q.r ?_; (repeat (intro b1; refine Q.r ?_))
        exact N.r1 (RV.tmp rfl RV.nil) fin ⟨M, by rw [hE], leM.refl M, by rw [appGno (by rw [hE]; decide)]⟩
      · refine Q.r ?_; (repeat (intro b1; refine Q.r ?_))
        exact N.r1 (RV.tmp rfl RV.nil) fin ⟨M, by rw [hE], leM.refl M, by rw [appGno (by rw [hE]; decide)]⟩
      · refine Q.r ?_; (repeat (intro b1; refine Q.r ?_))
        exact N.r1 (RV.tmp rfl RV.nil) fin ⟨M, by rw [hE], leM.refl M, by rw [appGno (by rw [hE]; decide)]⟩
      · refine Q.r ?_; (repeat (intro b1; refine Q.r ?_))
        exact N.r1 (RV.tmp rfl RV.nil) fin ⟨M, by rw [hE], leM.refl M, by rw [appGno (by rw [hE]; decide)]⟩
    | some u =>
      obtain ⟨k, hkk⟩ := lk_idx hz
      rw [hz] at hlk
      have hlk1 : lkL j.tr n.txn = some u.2.abs := hlk
      have hwt := hw.lk hlk1
      have htv := hq.ok _ (List.mem_of_getElem? hkk)
      dsimp only
      by_cases hk1 : n.kind = 20 ∨ n.kind = 21
      · have hE := appGEw (j := j) hr (show n.abs.kind = 20 ∨ n.abs.kind = 21 from hk1)
        rw [show lkL j.tr n.abs.txn = some u.2.abs from hlk1] at hE
        dsimp only at hE
        have key : ∀ (L2 : List HP) (r : Value) (M1 : Nat → Option Obj) (t' : TV), r = .int .i64 (saidE u.2.abs n.abs) → leM M M1 → okT M1 t' → t'.abs = (if saidE u.2.abs n.abs = 0 then saidT u.2.abs n.abs else u.2.abs) → (saidE u.2.abs n.abs ≠ 0 → t' = u.2) →
            Ent (oneT (u.1, t') :: roM M1 :: pt b3 (cl n.cells 39) :: gP p j mt md :: gT mt ts :: trsH (ts.eraseIdx k) :: gD md j.done :: L2) (jdgH M1 p (appG j n.abs) :: roM M1 :: L2) := by
          intro L2 r M1 t' _ hl ht hta hne
          by_cases hs : saidE u.2.abs n.abs = 0
          · rw [if_pos hs] at hta
            rw [appGw (by rw [hE]; exact hs) (show n.abs.kind = 20 ∨ n.abs.kind = 21 from hk1) (show lkL j.tr n.abs.txn = some u.2.abs from hlk1)]
            have hq2 : GQ' M1 { j with tr := putL j.tr n.abs.txn (saidT u.2.abs n.abs) } (ts.set k (n.txn, u.1, t')) := (hq.mono hl).upd hw.kt hkk ht rfl (by rw [hta])
            exact Ent.trans (M := gP p { j with tr := putL j.tr n.abs.txn (saidT u.2.abs n.abs) } mt md :: gT mt ts :: oneT (u.1, t') :: trsH (ts.eraseIdx k) :: gD md j.done :: roM M1 :: L2) (by exact Go.SX.Ent.go) (trs_upd hkk hq2)
          · rw [appGno (by rw [hE]; exact hs), hne hs]
            exact Ent.trans (M := gP p j mt md :: gT mt ts :: oneT u :: trsH (ts.eraseIdx k) :: gD md j.done :: roM M1 :: L2) (by exact Go.SX.Ent.go) (jdg_shut1 hkk (hq.mono hl))
        rcases hk1 with hk1 | hk1
        · refine Q.r ?_; (repeat (intro b1; refine Q.r ?_))
          refine opsS_trs hkk ?_
          refine S.c2 (A := oneT u) (B := roM M) rfl (Gsaid_spec n u n.txn M _ htv hwt (.inl hk1)) ?_
          rintro _ _ ⟨M1, t', rfl, hl, ht, hta, hne, rfl⟩
          refine Q.r ?_; (repeat (intro b1; refine Q.r ?_))
          exact N.r1 (RV.tmp rfl RV.nil) (Ent.trans (by exact Go.SX.Ent.go) (key L (.int .i64 (saidE u.2.abs n.abs)) M1 t' rfl hl ht hta hne)) ⟨M1, by rw [hE], hl, rfl⟩
        · refine Q.r ?_; (repeat (intro b1; refine Q.r ?_))
          refine opsS_trs hkk ?_
          refine S.c2 (A := oneT u) (B := roM M) rfl (Gsaid_spec n u n.txn M _ htv hwt (.inr hk1)) ?_
          rintro _ _ ⟨M1, t', rfl, hl, ht, hta, hne, rfl⟩
          refine Q.r ?_; (repeat (intro b1; refine Q.r ?_))
          exact N.r1 (RV.tmp rfl RV.nil) (Ent.trans (by exact Go.SX.Ent.go) (key L (.int .i64 (saidE u.2.abs n.abs)) M1 t' rfl hl ht hta hne)) ⟨M1, by rw [hE], hl, rfl⟩
      · have hk2 : n.kind = 18 ∨ n.kind = 22 := by omega
        have hE := appGEe (j := j) hr (show n.abs.kind = 18 ∨ n.abs.kind = 22 from hk2)
        rw [show lkL j.tr n.abs.txn = some u.2.abs from hlk1, show n.abs.kind = n.kind from rfl] at hE
        dsimp only at hE
        rcases hk2 with hk2 | hk2
        · by_cases hst : ¬ 0 < u.2.stamp
          · have hE1 : appGE j n.abs = 10 := by rw [hE, hk2, if_pos (by simp [hst])]
            refine Q.r ?_; (repeat (intro b1; refine Q.r ?_))
            refine swp_trs hkk ?_
            refine Q.dgo [true, false, true] [] [] [0, 1, 2, 3, 4, 5, 6, 7, 8, 9, 10] ?_
            refine Q.rd ?_; (repeat (intro b1; refine Q.rd ?_))
            refine Q.r ?_; (repeat (intro b1; refine Q.r ?_))
            exact N.r1 (RV.tmp rfl RV.nil) (Ent.trans (M := gP p j mt md :: gT mt ts :: oneT u :: trsH (ts.eraseIdx k) :: gD md j.done :: roM M :: L) (by exact Go.SX.Ent.go) (jdg_shut1 hkk hq)) ⟨M, by rw [hE1], leM.refl M, by rw [appGno (by rw [hE1]; decide)]⟩
          · have hE1 : appGE j n.abs = 0 := by rw [hE, hk2, if_neg (by simp [hst])]
            have hS := appGe hE1 (show n.abs.kind = 18 ∨ n.abs.kind = 22 from .inl hk2)
            refine Q.r ?_; (repeat (intro b1; refine Q.r ?_))
            refine swp_trs hkk ?_
            refine Q.dgo [true, false, true] [] [] [0, 1, 2, 3, 4, 5, 6, 7, 8, 9, 10] ?_
            refine Q.rd ?_; (repeat (intro b1; refine Q.rd ?_))
            refine Q.r ?_; (repeat (intro b1; refine Q.r ?_))
            refine Q.dgo [false, true, false, true] [6] [] [0, 1, 2, 3, 4, 5, 6] ?_
            refine Q.rd ?_; (repeat (intro b1; refine Q.rd ?_))
            refine D.e rfl rfl rfl ?_
            refine S.dl (g := U64) (q := n.txn) rfl rfl ?_
            refine Q.r ?_; (repeat (intro b1; refine Q.r ?_))
            refine Q.rd ?_; (repeat (intro b1; refine Q.rd ?_))
            refine Q.r ?_; (repeat (intro b1; refine Q.r ?_))
            have hq2 : GQ' M { j with tr := delL j.tr n.txn } (delL ts n.txn) := hq.del rfl rfl
            refine N.r1 (RV.tmp rfl RV.nil) (Ent.trans (M := gP p { j with tr := delL j.tr n.txn } mt md :: gT mt (delL ts n.txn) :: trsH (delL ts n.txn) :: gD md j.done :: roM M :: L) ?_ (jdg_shut hq2)) ⟨M, by rw [hE1], leM.refl M, by rw [hS]⟩
            rw [show trsH (delL ts n.txn) = trsH (ts.eraseIdx k) from congrArg trsH (del_erase (ts_keys hq.tr hw.kt) hkk)]
            exact Go.SX.Ent.go
        · by_cases hst : 0 < u.2.stamp
          · have hE1 : appGE j n.abs = 10 := by rw [hE, hk2, if_pos (by simp [hst])]
            refine Q.r ?_; (repeat (intro b1; refine Q.r ?_))
            refine swp_trs hkk ?_
            refine Q.dgo [true, false, true] [] [] [0, 1, 2, 3, 4, 5, 6, 7, 8, 9, 10] ?_
            refine Q.rd ?_; (repeat (intro b1; refine Q.rd ?_))
            refine Q.r ?_; (repeat (intro b1; refine Q.r ?_))
            exact N.r1 (RV.tmp rfl RV.nil) (Ent.trans (M := gP p j mt md :: gT mt ts :: oneT u :: trsH (ts.eraseIdx k) :: gD md j.done :: roM M :: L) (by exact Go.SX.Ent.go) (jdg_shut1 hkk hq)) ⟨M, by rw [hE1], leM.refl M, by rw [appGno (by rw [hE1]; decide)]⟩
          · have hE1 : appGE j n.abs = 0 := by rw [hE, hk2, if_neg (by simp [hst])]
            have hS := appGe hE1 (show n.abs.kind = 18 ∨ n.abs.kind = 22 from .inr hk2)
            refine Q.r ?_; (repeat (intro b1; refine Q.r ?_))
            refine swp_trs hkk ?_
            refine Q.dgo [true, false, true] [] [] [0, 1, 2, 3, 4, 5, 6, 7, 8, 9, 10] ?_
            refine Q.rd ?_; (repeat (intro b1; refine Q.rd ?_))
            refine Q.r ?_; (repeat (intro b1; refine Q.r ?_))
            refine Q.dgo [false, true, false, true] [6] [] [0, 1, 2, 3, 4, 5, 6] ?_
            refine Q.rd ?_; (repeat (intro b1; refine Q.rd ?_))
            refine D.e rfl rfl rfl ?_
            refine S.dl (g := U64) (q := n.txn) rfl rfl ?_
            refine Q.r ?_; (repeat (intro b1; refine Q.r ?_))
            refine Q.rd ?_; (repeat (intro b1; refine Q.rd ?_))
            refine Q.r ?_; (repeat (intro b1; refine Q.r ?_))
            have hq2 : GQ' M { j with tr := delL j.tr n.txn } (delL ts n.txn) := hq.del rfl rfl
            refine N.r1 (RV.tmp rfl RV.nil) (Ent.trans (M := gP p { j with tr := delL j.tr n.txn } mt md :: gT mt (delL ts n.txn) :: trsH (delL ts n.txn) :: gD md j.done :: roM M :: L) ?_ (jdg_shut hq2)) ⟨M, by rw [hE1], leM.refl M, by rw [hS]⟩
            rw [show trsH (delL ts n.txn) = trsH (ts.eraseIdx k) from congrArg trsH (del_erase (ts_keys hq.tr hw.kt) hkk)]
            exact Go.SX.Ent.go
  · have hE : appGE j n.abs = 4 := by
      unfold appGE
      rw [if_neg (by rw [hr]; decide), if_neg (show ¬ n.abs.kind = 16 from h16), if_neg (show ¬ n.abs.kind = 19 from h19), if_neg (show ¬ n.abs.kind = 17 from h17), if_neg (show ¬ (n.abs.kind = 20 ∨ n.abs.kind = 21 ∨ n.abs.kind = 18 ∨ n.abs.kind = 22) from hk)]
    have k1 : ¬ n.kind = 20 := fun h => hk (.inl h)
    have k2 : ¬ n.kind = 21 := fun h => hk (.inr (.inl h))
    have k3 : ¬ n.kind = 18 := fun h => hk (.inr (.inr (.inl h)))
    have k4 : ¬ n.kind = 22 := fun h => hk (.inr (.inr (.inr h)))
    refine Q.r ?_; (repeat (intro b1; refine Q.r ?_))
    exact N.r1 (RV.tmp rfl RV.nil) (Ent.drop (jdg_shut hq)) ⟨M, by rw [hE], leM.refl M, by rw [appGno (by rw [hE]; decide)]⟩
end Go.Proofs.YtiampehfpgcogaaDoor
namespace Go.Proofs.YtiampehfpgcogaaDoor
open Go Go.SX
theorem partsV_get {l : List Int} (h : partsV l = true) {k : Nat} (hk : k < l.length) : 0 ≤ l[k] ∧ l[k] < 16 ∧ (∀ (h0 : 0 < k), l[k - 1]'(by omega) < l[k]) := by
  unfold partsV at h
  have := List.all_eq_true.1 h k (List.mem_range.2 hk)
  unfold okP at this
  have e : ∀ i (hi : i < l.length), l.getD i 0 = l[i] := fun i hi => by simp [List.getD, hi]
  rw [e k hk] at this
  simp only [Bool.and_eq_true, Bool.or_eq_true, decide_eq_true_eq] at this
  refine ⟨this.1.1, this.1.2, fun h0 => ?_⟩
  rcases this.2 with h1 | h1
  · omega
  · rwa [e (k - 1) (by omega)] at h1
theorem partsV_ok {l : List Int} (h : partsV l = true) : Rise l ∧ ∀ q ∈ l, 0 ≤ q ∧ q < 16 := by
  constructor
  · refine List.pairwise_iff_getElem.2 ?_
    intro i j hi hj hij
    induction j with
    | zero => omega
    | succ j ih =>
      have hs := (partsV_get h hj).2.2 (by omega)
      simp only [Nat.add_sub_cancel] at hs
      by_cases he : i = j
      · subst he; exact hs
      · exact Int.lt_trans (ih (by omega) (by omega)) hs
  · intro q hq
    obtain ⟨k, hk, rfl⟩ := List.getElem_of_mem hq
    exact ⟨(partsV_get h hk).1, (partsV_get h hk).2.1⟩
theorem right_parts {n : NA} (h : rightN n = true) : Rise n.parts ∧ (∀ q ∈ n.parts, 0 ≤ q ∧ q < 16) ∧ n.parts.length ≤ 4 := by
  unfold rightN boundN at h
  simp only [Bool.and_eq_true, Bool.not_eq_true', Bool.or_eq_false_iff, decide_eq_false_iff_not] at h
  have := partsV_ok h.2.1.1.2
  exact ⟨this.1, this.2, by omega⟩
theorem right_max {n : NA} (h : rightN n = true) : n.stamp ≤ 1099511627776 ∧ n.mark ≤ 1099511627776 := by
  unfold rightN boundN at h
  simp only [Bool.and_eq_true, Bool.not_eq_true', Bool.or_eq_false_iff, decide_eq_false_iff_not] at h
  omega
theorem putL_memG {κ α : Type} [DecidableEq κ] {m : List (κ × α)} {k : κ} {a : α} {x : κ × α} (h : x ∈ putL m k a) : x ∈ m ∨ x = (k, a) := by
  unfold putL at h
  split at h
  · obtain ⟨u, hu, rfl⟩ := List.mem_map.1 h
    split
    · exact .inr rfl
    · exact .inl hu
  · rcases List.mem_append.1 h with h | h
    · exact .inl h
    · exact .inr (List.mem_singleton.1 h)
theorem WG.app {j : JG} (h : WG j) {n : NA} (h0 : 0 ≤ n.txn) (hst : 0 ≤ n.stamp) (hmk : 0 ≤ n.mark) : WG (appG j n) := by
  by_cases hE : ¬ appGE j n = 0
  · rw [appGno hE]; exact h
  have hE : appGE j n = 0 := Classical.not_not.1 hE
  cases hr : rightN n with
  | false => unfold appGE at hE; rw [if_pos hr] at hE; cases hE
  | true =>
  have hb := h.b
  have hp := right_parts hr
  have hm := right_max hr
  have ho := (right_opsG hr).2
  by_cases h16 : n.kind = 16
  · rw [appG16 hE h16]
    have hmj : j.epoch < n.mark := by
      rw [appGE16 hr h16] at hE
      split at hE
      · cases hE
      · omega
    exact ⟨⟨hmk, hm.2, Int.le_refl _, (show (0 : Int) < 1048576 by decide), hb.l0, hb.l1, hb.d1, hb.d2⟩, (List.filter_sublist.map _).nodup h.kt, h.kd, fun u hu => h.tx u (List.mem_filter.1 hu).1, h.dp⟩
  by_cases h19 : n.kind = 19
  · rw [appG19 hE h19]
    refine ⟨⟨hb.e0, hb.e1, ?_, ?_, hb.l0, hb.l1, hb.d1, hb.d2⟩, putL_ok h.kt _ _, h.kd, fun u hu => ?_, h.dp⟩
    · have := hb.s0
      dsimp only
      split <;> omega
    · have := hb.s1
      dsimp only
      split <;> omega
    · rcases putL_memG hu with hu | rfl
      · exact h.tx u hu
      · exact ⟨rfl, h0, Int.le_refl _, hp.1, hp.2.2, hp.2.1, List.Pairwise.nil, fun _ h => (by cases h), List.Pairwise.nil, fun _ h => (by cases h), ho⟩
  by_cases h17 : n.kind = 17
  · rw [appG17 hE h17]
    have hne : n.stamp ≠ 0 := by
      rw [appGE17 hr h17] at hE
      unfold comE at hE
      intro e
      rw [if_pos e] at hE; cases hE
    refine ⟨⟨hb.e0, hb.e1, hb.s0, hb.s1, ?_, ?_, hb.d1, hb.d2⟩, putL_ok h.kt _ _, putL_ok h.kd _ _, fun u hu => ?_, fun u hu => ?_⟩
    · have := hb.l0; dsimp only; omega
    · have := hb.l1; dsimp only; omega
    · rcases putL_memG hu with hu | rfl
      · exact h.tx u hu
      · cases hz : lkL j.tr n.txn with
        | some t =>
          have ht := h.lk hz
          exact ⟨ht.xx, ht.x0, hst, ht.r, ht.pl, ht.pb, ht.yr, ht.ys, ht.kr, ht.ks, ht.ol⟩
        | none => exact ⟨rfl, h0, hst, hp.1, hp.2.2, hp.2.1, List.Pairwise.nil, fun _ h => (by cases h), List.Pairwise.nil, fun _ h => (by cases h), Nat.zero_le _⟩
    · rcases putL_memG hu with hu | rfl
      · exact h.dp u hu
      · dsimp only; omega
  by_cases hw : n.kind = 20 ∨ n.kind = 21
  · have hE2 := hE
    rw [appGEw hr hw] at hE2
    cases hz : lkL j.tr n.txn with
    | none => rw [hz] at hE2; cases hE2
    | some t =>
      rw [hz] at hE2
      dsimp only at hE2
      have ht := h.lk hz
      rw [appGw hE hw hz]
      refine ⟨⟨hb.e0, hb.e1, hb.s0, hb.s1, hb.l0, hb.l1, hb.d1, hb.d2⟩, putL_ok h.kt _ _, h.kd, fun u hu => ?_, h.dp⟩
      rcases putL_memG hu with hu | rfl
      · exact h.tx u hu
      · unfold saidE at hE2
        by_cases hne : decide (0 < t.stamp) ≠ decide (n.kind = 21)
        · rw [if_pos hne] at hE2; cases hE2
        · rw [if_neg hne] at hE2
          by_cases hno : n.who ∉ t.parts ∨ n.who ∈ (if n.kind = 21 then t.acked else t.yes)
          · rw [if_pos hno] at hE2; cases hE2
          · skip
            have hpp : n.who ∈ t.parts := Classical.not_not.1 fun e => hno (.inl e)
            have hnn : n.who ∉ (if n.kind = 21 then t.acked else t.yes) := fun e => hno (.inr e)
            unfold saidT
            by_cases h21 : n.kind = 21
            · rw [if_pos h21] at hnn ⊢
              exact ⟨ht.xx, ht.x0, ht.st, ht.r, ht.pl, ht.pb, ht.yr, ht.ys, putI_rise ht.kr hnn, fun q hq => (by rcases putI_mem.1 hq with rfl | hq; exact hpp; exact ht.ks q hq), ht.ol⟩
            · rw [if_neg h21] at hnn ⊢
              exact ⟨ht.xx, ht.x0, ht.st, ht.r, ht.pl, ht.pb, putI_rise ht.yr hnn, fun q hq => (by rcases putI_mem.1 hq with rfl | hq; exact hpp; exact ht.ys q hq), ht.kr, ht.ks, ht.ol⟩
  · by_cases he : n.kind = 18 ∨ n.kind = 22
    · rw [appGe hE he]
      exact ⟨⟨hb.e0, hb.e1, hb.s0, hb.s1, hb.l0, hb.l1, hb.d1, hb.d2⟩, delL_ok h.kt _, h.kd, fun u hu => h.tx u (List.mem_filter.1 hu).1, h.dp⟩
    · unfold appGE at hE
      rw [if_neg (by rw [hr]; decide), if_neg h16, if_neg h19, if_neg h17, if_neg (by omega)] at hE
      cases hE
theorem WG.zero {s d : Int} (h1 : 1 ≤ d) (h2 : d ≤ 8) : WG (JG0 s d) :=
  ⟨⟨Int.le_refl _, (show (0 : Int) ≤ 1099511627776 by decide), Int.le_refl _, (show (0 : Int) < 1048576 by decide), Int.le_refl _, (show (0 : Int) ≤ 1099511627776 by decide), h1, h2⟩, List.nodup_nil, List.nodup_nil, fun _ h => (by cases h), fun _ h => (by cases h)⟩
theorem GI.zero : GI (JG0 3 2) 0 (fun _ _ => False) [] :=
  ⟨rfl, rfl, Int.le_refl _, Int.le_refl _, Int.le_refl _, Int.le_refl _, List.nodup_nil, List.nodup_nil, List.nodup_nil, fun _ _ h => (by cases h), fun _ _ h => (by cases h), fun _ _ h => (by cases h), fun _ _ _ _ h => (by cases h)⟩
end Go.Proofs.YtiampehfpgcogaaDoor
namespace Go.Proofs.YtiampehfpgcogaaDoor
open Go Go.SX
attribute [local irreducible] swp opsS thenS blockS retS CallsS St Ent YieldS anyS drawS
section
variable {n : Nat} {ops rest : List Oper} {cd : Code} {Q : Post} {f : Env} {L L0 : List HP} {M : Nat → Option Obj}
theorem S.cmG {d : Tmp} {ty : TypeId} {pos : String} {af : Array Edge} {g : FuncId} {xs : Array Operand} {ats : Array TypeId} {args : List Value} {R : Value → List HP → Prop} [hm : PickM L M L0] [he : Enters Tryd.prog g] (hx : argsL f xs.toList = some args) (hc : CallsS Tryd.prog g args (roM M :: L0) R) (hk : ∀ v L', R v L' → opsS Tryd.prog n ops rest Q (upd f d v) L') :
    opsS Tryd.prog n ops (⟨some d, .call ⟨.value (.func g), xs, ats⟩, ty, pos, af, none⟩ :: rest) Q f L := opsS_ent hm.ent (S.cr hx hc hk)
end
theorem OkN.right {n : NV} (h : rightN n.abs = true) : OkN n := by
  have hv : ∀ v : List Int, bareV v = true → v.length ≤ 1000000 := by
    intro v hv
    unfold bareV rightV at hv
    simp only [Bool.or_eq_true, Bool.and_eq_true, decide_eq_true_eq] at hv
    omega
  unfold rightN boundN at h
  simp only [Bool.and_eq_true, Bool.not_eq_true', Bool.or_eq_false_iff, decide_eq_false_iff_not, Bool.not_eq_false'] at h
  obtain ⟨_, ⟨⟨⟨⟨_, ⟨⟨h1, h2⟩, h3⟩, h4⟩, _⟩, h5⟩, h6⟩⟩ := h
  have h1' : n.parts.length ≤ 1000000 := by
    have h : ¬ 4 < n.parts.length := h1
    omega
  have h2' : n.ops.length ≤ 1000000 := by
    have h : ¬ 16 < (n.ops.map OV.abs).length := h2
    rw [List.length_map] at h; omega
  have h3' : n.hits.length ≤ 1000000 := by
    have h : ¬ 16 < (n.hits.map HV.abs).length := h3
    rw [List.length_map] at h; omega
  refine ⟨h1', h2', fun o ho => ?_, hv _ h4, h3', fun o ho => ?_⟩
  · have := List.any_eq_false.1 h5 o.abs (List.mem_map_of_mem (f := OV.abs) ho)
    unfold badOp at this
    simp only [Bool.or_eq_true, decide_eq_true_eq, Bool.not_eq_true', not_or, Bool.not_eq_false] at this
    exact hv _ this.2
  · have := List.any_eq_false.1 h6 o.abs (List.mem_map_of_mem (f := HV.abs) ho)
    unfold badHit at this
    simp only [Bool.or_eq_true, decide_eq_true_eq, Bool.not_eq_true', not_or, Bool.not_eq_false] at this
    exact hv _ (by unfold bareV; rw [this.2]; simp)
theorem NumN.right {n : NV} (h : rightN n.abs = true) (hz : NZ n.abs) : NumN n := by
  have hk : 1 ≤ n.kind ∧ n.kind ≤ 22 := by
    unfold rightN at h
    simp only [Bool.and_eq_true, decide_eq_true_eq] at h
    exact h.1.1
  exact ⟨by omega, hz.t0, hz.s, hz.m, hz.a⟩
theorem right_of_app {j : JG} {n : NA} (h : appGE j n = 0) : rightN n = true := by
  cases hr : rightN n with
  | true => rfl
  | false => unfold appGE at h; rw [if_pos hr] at h; cases h
theorem map_one {α β : Type} {f : α → β} {l : List α} {b : β} (h : l.map f = [b]) : ∃ x, l = [x] ∧ f x = b := by
  match l, h with
  | [x], h => exact ⟨x, rfl, List.head_eq_of_cons_eq h⟩
theorem map_two {α β : Type} {f : α → β} {l : List α} {b c : β} (h : l.map f = [b, c]) : ∃ x y, l = [x, y] ∧ f x = b ∧ f y = c := by
  match l, h with
  | [x, y], h => exact ⟨x, y, rfl, List.head_eq_of_cons_eq h, List.head_eq_of_cons_eq (List.tail_eq_of_cons_eq h)⟩
abbrev exOps : VL := [(0, [1]), (1, [1])]
abbrev exAsk : NA := { NA.zero with kind := 1, batch := 9, ops := exOps }
abbrev exT : TR := ⟨1, 9, 0, 0, 3, [1, 2], [], [], exOps⟩
abbrev exJ1 : JG := ⟨2, 1, 0, 1, 0, [(1, exT)], []⟩
abbrev exV : NA := { NA.zero with kind := 4, txn := 1 }
abbrev exY : NA := { NA.zero with kind := 20, txn := 1, who := 1 }
abbrev exJ2 : JG := ⟨2, 1, 0, 1, 0, [(1, { exT with yes := [1] })], []⟩
abbrev exC : NA := { NA.zero with kind := 17, txn := 1, batch := 9, stamp := 1, parts := [1, 2] }
theorem gx0 : homeV 2 0 = 0 ∧ homeV 2 1 = 1 := ⟨by kernel_rfl, by kernel_rfl⟩
theorem gx1 : planG (JG0 2 1) 3 exAsk = ⟨[], [beginN exT], [prepM 2 exT 1, prepM 2 exT 2], [], []⟩ := by kernel_rfl
theorem gx2 : appGE (JG0 2 1) (beginN exT) = 0 ∧ appG (JG0 2 1) (beginN exT) = exJ1 := ⟨by kernel_rfl, by kernel_rfl⟩
theorem gx3 : planG exJ1 1 exV = ⟨[], [exY], [], [], []⟩ := by kernel_rfl
theorem gx4 : appGE exJ1 exY = 0 ∧ appG exJ1 exY = exJ2 := ⟨by kernel_rfl, by kernel_rfl⟩
theorem gx5 : (planG exJ2 2 exV).rec_ = [exC] := by kernel_rfl
set_option maxHeartbeats 4000000 in
theorem Gawake_spec (M : Nat → Option Obj) (L : List HP) (hT : TabM M) : CallsS Tryd.prog 5 [] (roM M :: L) (fun r L' => ∃ M', r = .bool true ∧ leM M M' ∧ L' = roM M' :: L) := by
  refine CallsS.of_body Tryd.func5 rfl rfl rfl ?_
  refine Q.r ?_; (repeat (intro b1; refine Q.r ?_))
  refine S.cr rfl (GNew_spec M 2 1 _ (by decide) (by decide) (by decide) (by decide)) ?_
  rintro _ _ ⟨p, rfl, rfl⟩
  refine Q.r ?_; (repeat (intro b1; refine Q.r ?_))
  refine swp_cutB (σ := Option Addr × Nat × List OV) (fun s => [(1, ptrG p), (3, .slice s.1 s.2.2.length s.2.1)])
    (fun s => slO 57 2 s.1 s.2.2.length s.2.1 (s.2.2.flatMap OV.cells) :: vecsH s.2.2 :: jdgH M p (JG0 2 1) :: roM M :: L) (fun s => s.2.2.map OV.abs = exOps) ?_ ?_
  · refine swp_loop (σ := Nat × Option Addr × Nat × List OV) (fun s => [(1, ptrG p), (3, .slice s.2.1 s.2.2.2.length s.2.2.1), (4, .int .u64 s.1)])
      (fun s => slO 57 2 s.2.1 s.2.2.2.length s.2.2.1 (s.2.2.2.flatMap OV.cells) :: vecsH s.2.2.2 :: jdgH M p (JG0 2 1) :: roM M :: L)
      (fun s => s.1 ≤ 2 ∧ s.2.2.2.map OV.abs = exOps.take s.1) (fun s => 2 - s.1) (0, none, 0, []) ⟨rfl, rfl, rfl, trivial⟩ (Ent.trans bodV_nil slO_nil) ⟨by omega, rfl⟩ ?_
    rintro ⟨k, a3, c3, us⟩ ⟨hk, hus⟩
    dsimp only at hk hus ⊢
    have hul : us.length = k := by
      have := congrArg List.length hus
      simp at this; omega
    by_cases hlt : k < 2
    · refine Q.r ?_; (repeat (intro b1; refine Q.r ?_))
      refine S.cr rfl (Home_spec k 2 _ (by decide) (by decide)) ?_
      rintro _ _ ⟨rfl, rfl⟩
      have hh : homeV 2 k = k := by
        have : k = 0 ∨ k = 1 := by omega
        rcases this with rfl | rfl
        · exact gx0.1
        · exact gx0.2
      rw [hh]
      refine Q.r ?_; (repeat (intro b1; refine Q.r ?_))
      rename_i bv
      refine S.app rfl rfl (SrcS.sl RdC.row (by rfl) (by rfl)) (by rfl) (by omega) (by omega) (fun a7 c7 => ?_)
      refine Q.r ?_; (repeat (intro b1; refine Q.r ?_))
      refine S.y (Y.add rfl rfl) ?_
      rw [wrap_u64 (by omega) (by omega)]
      refine Q.r ?_; (repeat (intro b1; refine Q.r ?_))
      refine ⟨(k + 1, a7, c7, us ++ [⟨k, some ⟨bv, 0, none⟩, 1, [1]⟩]), ⟨rfl, congrArg some (by simp), congrArg some (congrArg (Value.int .u64) (by simp)), trivial⟩, ?_, ⟨by dsimp only; omega, ?_⟩, by dsimp only; omega⟩
      · dsimp only
        rw [len_snoc, flat_snoc]
        refine Ent.trans (M := pt bv (cl [Value.int .i32 1] 21) :: vecsH us :: slO 57 2 a7 (us.length + 1) c7 (us.flatMap OV.cells ++ [Value.int .u64 k, .slice (some ⟨bv, 0, none⟩) 1 1]) :: jdgH M p (JG0 2 1) :: roM M :: L) (by exact Go.SX.Ent.go) (Ent.trans (slO_fold (sz := 1) (m := 1) rfl) (Ent.trans (vecs_snoc (o := ⟨k, some ⟨bv, 0, none⟩, 1, [1]⟩) rfl) ?_))
        exact Go.SX.Ent.go
      · dsimp only
        have : k = 0 ∨ k = 1 := by omega
        rw [List.map_append, hus]
        rcases this with rfl | rfl <;> rfl
    · have hk2 : k = 2 := by omega
      subst hk2
      refine Q.r ?_; (repeat (intro b1; refine Q.r ?_))
      exact ⟨(a3, c3, us), ⟨rfl, rfl, trivial⟩, by exact Go.SX.Ent.go, hus⟩
  · rintro ⟨a, c, us⟩ hus
    dsimp only at hus ⊢
    have hul : us.length = 2 := by have h := congrArg List.length hus; rw [List.length_map] at h; exact h
    refine swp_abs a (fun M1 hl1 hs1 => ?_)
    refine swp_absV us (fun M2 hl2 hs2 => ?_)
    refine swp_gm p (hl1.trans hl2) ?_
    have hn : okN M2 ⟨1, 0, 9, 0, 0, 0, 0, 0, 0, 0, 0, 0, none, 0, [], a, c, us, none, 0, [], none, 0, []⟩ := ⟨SlM.nil0, ⟨hs1.mono hl2, hs2⟩, SlM.nil0, SlM.nil0, fun o ho => by cases ho⟩
    have hna : NV.abs ⟨1, 0, 9, 0, 0, 0, 0, 0, 0, 0, 0, 0, none, 0, [], a, c, us, none, 0, [], none, 0, []⟩ = exAsk := congrArg (fun z => ({ NA.zero with kind := 1, batch := 9, ops := z } : NA)) hus
    have hr0 : rightN (NV.abs ⟨1, 0, 9, 0, 0, 0, 0, 0, 0, 0, 0, 0, none, 0, [], a, c, us, none, 0, [], none, 0, []⟩) = true := by rw [hna]; kernel_rfl
    have hw0 : WG (JG0 2 1) := WG.zero (by decide) (by decide)
    refine Q.r ?_; (repeat (intro b1; refine Q.r ?_))
    refine S.cg p (args := [ptrG p, .int .i64 3, NV.val ⟨1, 0, 9, 0, 0, 0, 0, 0, 0, 0, 0, 0, none, 0, [], a, c, us, none, 0, [], none, 0, []⟩]) rfl (GPlan_spec _ M2 p (JG0 2 1) 3 _ hw0.b hn (OkN.right hr0) (hT.mono (hl1.trans hl2)) (by show (0 : Int) ≤ 1 ∧ (1 : Int) ≤ 255; decide)) ?_
    rw [hna, gx1]
    rintro _ _ ⟨a1, c1, rs, a2, c2, ns, a3, c3, ms, a4, c4, is, a5, c5, es, M3, rfl, hl3, ⟨o1, o2, o3, _, _⟩, ⟨e1, e2, e3, _, _⟩, rfl⟩
    dsimp only at e1 e2 e3
    obtain ⟨n1, rfl, f1⟩ := map_one e2
    obtain ⟨m1, m2, rfl, g1, g2⟩ := map_two e3
    obtain ⟨bn, on, rfl, cn⟩ := SlM.cm (g := NV.cells) (k := 0) (fun _ => rfl) o2.1 rfl rfl
    obtain ⟨bm, om, rfl, cm1⟩ := SlM.cm (g := mcells) (k := 0) (fun _ => rfl) o3.1 rfl rfl
    obtain ⟨bm', om', hbm, cm2⟩ := SlM.cm (g := mcells) (k := 1) (fun _ => rfl) o3.1 rfl rfl
    cases hbm
    have g3 : m1.1 = 1 := congrArg Prod.fst g1
    have g4 : m2.1 = 2 := congrArg Prod.fst g2
    dsimp only [List.length_cons, List.length_nil]
    refine Q.rn ?_; (repeat (intro b1; refine Q.rn ?_))
    have hr1 : rightN n1.abs = true := by rw [f1]; kernel_rfl
    have k1 : n1.kind = 19 := congrArg NA.kind f1
    have t1 : n1.txn = 1 := congrArg NA.txn f1
    have hz1 : NZ n1.abs := by rw [f1]; exact ⟨by decide, by decide, by decide, by decide, by decide⟩
    have hl13 : leM M M3 := hl1.trans (hl2.trans hl3)
    refine S.cg p rfl (GApply_spec' n1 M3 p (JG0 2 1) _ hw0 (o2.2 n1 (List.mem_singleton.2 rfl)) (OkN.right hr1) (hT.mono hl13) (NumN.right hr1 hz1) hz1.t1 (fun h => absurd h (by omega))) ?_
    rw [f1]
    rintro _ _ ⟨M4, rfl, hl4, rfl⟩
    rw [gx2.1, gx2.2]
    have cn := cn.mono hl4
    refine Q.rn ?_; (repeat (intro b1; refine Q.rn ?_))
    rw [t1]
    have hT4 := hT.mono (hl13.trans hl4)
    have hw1 : WG exJ1 := by rw [← gx2.2]; exact hw0.app (by decide) (by decide) (by decide)
    refine S.cg p (args := [ptrG p, .int .i64 1, (NA.nv exV).val]) rfl (GPlan_spec (NA.nv exV) M4 p exJ1 1 _ hw1.b (okN.nv _) (OkN.nv _) hT4 (by show (0 : Int) ≤ 4 ∧ (4 : Int) ≤ 255; decide)) ?_
    rw [show (NA.nv exV).abs = exV from rfl, gx3]
    rintro _ _ ⟨a6, c6, rs6, a7, c7, ns7, a8, c8, ms8, a9, c9, is9, aa, ca, esa, M5, rfl, hl5, ⟨_, o7, _, _, _⟩, ⟨_, e7, _, _, _⟩, rfl⟩
    dsimp only at e7
    obtain ⟨n2, rfl, f2⟩ := map_one e7
    obtain ⟨bn2, on2, rfl, cn2⟩ := SlM.cm (g := NV.cells) (k := 0) (fun _ => rfl) o7.1 rfl rfl
    have hr2 : rightN n2.abs = true := by rw [f2]; kernel_rfl
    have k2 : n2.kind = 20 := congrArg NA.kind f2
    have hz2 : NZ n2.abs := by rw [f2]; exact ⟨by decide, by decide, by decide, by decide, by decide⟩
    have hT5 := hT4.mono hl5
    dsimp only [List.length_cons, List.length_nil]
    refine Q.rn ?_; (repeat (intro b1; refine Q.rn ?_))
    refine S.cg p rfl (GApply_spec' n2 M5 p exJ1 _ hw1 (o7.2 n2 (List.mem_singleton.2 rfl)) (OkN.right hr2) hT5 (NumN.right hr2 hz2) hz2.t1 (fun h => absurd h (by omega))) ?_
    rw [f2]
    rintro _ _ ⟨M6, rfl, hl6, rfl⟩
    rw [gx4.1, gx4.2]
    have hT6 := hT5.mono hl6
    have hw2 : WG exJ2 := by rw [← gx4.2]; exact hw1.app (by decide) (by decide) (by decide)
    refine Q.rn ?_; (repeat (intro b1; refine Q.rn ?_))
    refine S.cg p (args := [ptrG p, .int .i64 2, (NA.nv exV).val]) rfl (GPlan_spec (NA.nv exV) M6 p exJ2 2 _ hw2.b (okN.nv _) (OkN.nv _) hT6 (by show (0 : Int) ≤ 4 ∧ (4 : Int) ≤ 255; decide)) ?_
    rw [show (NA.nv exV).abs = exV from rfl]
    rintro _ _ ⟨ab, cb, rsb, ac, cc, nsc, ad, cd, msd, ae, ce, ise, af, cf, esf, M7, rfl, hl7, ⟨ob, _, _, _, _⟩, ⟨eb, _, _, _, _⟩, rfl⟩
    rw [gx5] at eb
    obtain ⟨n3, rfl, f3⟩ := map_one eb
    obtain ⟨bn3, on3, rfl, cn3⟩ := SlM.cm (g := NV.cells) (k := 0) (fun _ => rfl) ob.1 rfl rfl
    have k3 : n3.kind = 17 := congrArg NA.kind f3
    have s3 : n3.stamp = 1 := congrArg NA.stamp f3
    dsimp only [List.length_cons, List.length_nil]
    refine Q.rn ?_; (repeat (intro b1; refine Q.rn ?_))
    exact N.r1 (RV.tmp rfl RV.nil) (show Ent _ (roM M7 :: L) by exact Go.SX.Ent.go) ⟨M7, congrArg Value.bool (decide_eq_true s3), hl13.trans (hl4.trans (hl5.trans (hl6.trans hl7))), rfl⟩
end Go.Proofs.YtiampehfpgcogaaDoor
namespace Go.SX
open Go
theorem mp_keys {κ α : Type} [DecidableEq κ] {g : κ → Value} {r : α → Value} {b : Nat} {m : List (κ × α)} {P : Program} {n : Nat} {ops rest : List Oper} {Q : Post} {f : Env} {L L0 : List HP} [h : Pick (mpO g r b m) L L0] (hk : keysOK m → opsS P n ops rest Q f L) : opsS P n ops rest Q f L := fun ok F a w s t => by
  have t1 := h.ent w F t
  obtain ⟨hh, hf, hp⟩ := St.read_cons (L := L0 ++ F) t1
  obtain ⟨es, c, he, _⟩ := hp
  exact hk he.2.1 ok F a w s t
section
variable {P : Program} {n : Nat} {ops : List Oper} {f : Env} {A : List HP} {d : Tmp} {ty : TypeId} {pos : String} {af : Array Edge}
theorem Y.eqm {x y : Operand} {t t' k e : TypeId} [h : MapTy P t k e] {a : Option Nat} (hx : ev f x = some (.map a)) (hy : ev f y = some (.map none)) : YieldS P n ops ⟨some d, .binOp .eql t x y t', ty, pos, af, none⟩ f A ((.bool a.isNone)) := Y.of (fun _ w s => by
    have e : (Op.equal t (.map a) (.map none)).run P w = .ok (a.isNone) w := run_eqIn_map 9999 h.und w
    simp [execOp, s.eval hx, s.eval hy, eqGuard, binOp, e])
end
end Go.SX
namespace Go.Proofs.YtiampehfpgcogaaDoor
open Go Go.SX
attribute [local irreducible] swp opsS thenS blockS retS CallsS St Ent YieldS anyS drawS
abbrev YE := Int × Nat × List (Int × Bool)
abbrev mpV (t : Nat × List (Int × Bool)) : Value := .map (some t.1)
abbrev oneY (t : Nat × List (Int × Bool)) : HP := mpO I64 Value.bool t.1 t.2
def ysH (ys : List YE) : HP := allH (ys.map fun u => oneY u.2)
def YY (ys : List YE) (x q : Int) : Prop := ∃ t, lkL (α := Nat × List (Int × Bool)) ys x = some t ∧ lkL t.2 q = some true
theorem ys_out {ys : List YE} {k : Nat} {u : YE} (h : ys[k]? = some u) {L : List HP} : Ent (ysH ys :: L) (oneY u.2 :: ysH (ys.eraseIdx k) :: L) := by
  refine Ent.trans Ent.open_all (Ent.trans (Ent.perm ?_) (Ent.cons (Ent.shut_all (L := (ys.eraseIdx k).map fun u => oneY u.2))))
  exact ((erase_perm ys k u h).map fun u => oneY u.2).append_right L
theorem ys_in {ys : List YE} {k : Nat} (hk : k < ys.length) (u : YE) {L : List HP} : Ent (oneY u.2 :: ysH (ys.eraseIdx k) :: L) (ysH (ys.set k u) :: L) := by
  refine Ent.trans (Ent.cons Ent.open_all) (Ent.trans (Ent.perm ?_) (Ent.shut_all (L := (ys.set k u).map fun u => oneY u.2)))
  exact ((set_perm ys k u hk).map fun u => oneY u.2).append_right L
theorem ys_new (ys : List YE) (u : YE) {L : List HP} : Ent (oneY u.2 :: ysH ys :: L) (ysH (ys ++ [u]) :: L) := by
  refine Ent.trans (Ent.cons Ent.open_all) (Ent.trans (Ent.perm ?_) (Ent.shut_all (L := (ys ++ [u]).map fun u => oneY u.2)))
  have hp : (u :: ys).Perm (ys ++ [u]) := (List.perm_append_singleton u ys).symm
  exact (hp.map fun u => oneY u.2).append_right L
theorem ys_idx {ys : List YE} {x : Int} {t : Nat × List (Int × Bool)} (h : lkL (α := Nat × List (Int × Bool)) ys x = some t) : ∃ k : Nat, ys[k]? = some ((x, t) : YE) := by
  unfold lkL at h
  cases hf : ys.find? fun p => decide (p.1 = x) with
  | none => rw [hf] at h; cases h
  | some w =>
    rw [hf] at h
    cases h
    have h1 := List.find?_some hf
    have h2 := List.mem_of_find?_eq_some hf
    obtain ⟨k, hk⟩ := List.mem_iff_getElem?.1 h2
    refine ⟨k, ?_⟩
    rw [hk, ← of_decide_eq_true h1]
theorem my_set {ys : List YE} {k b my : Nat} {x : Int} {m m' : List (Int × Bool)} (h : ys[k]? = some (x, b, m)) {L : List HP} : Ent (mpO U64 mpV my ys :: L) (mpO U64 mpV my (ys.set k (x, b, m')) :: L) := by
  have hk : k < ys.length := (List.getElem?_eq_some_iff.1 h).1
  have he := (List.getElem?_eq_some_iff.1 h).2
  refine mpO_cong ?_ ?_
  · rw [List.map_set]
    have : (U64 x, mpV (b, m')) = (ys.map fun p : YE => (U64 p.1, mpV p.2))[k]'(by simpa using hk) := by rw [List.getElem_map, he]
    rw [this, List.set_getElem_self]
  · rw [List.map_set]
    have : x = (ys.map fun p : YE => p.1)[k]'(by simpa using hk) := by rw [List.getElem_map, he]
    rw [this, List.set_getElem_self]
theorem opsS_ys {P : Program} {n : Nat} {ops rest : List Oper} {Q : Post} {f : Env} {L L0 : List HP} {ys : List YE} [hp : Pick (ysH ys) L L0] {k : Nat} {u : YE} (h : ys[k]? = some u) (hk : opsS P n ops rest Q f (oneY u.2 :: ysH (ys.eraseIdx k) :: L0)) : opsS P n ops rest Q f L := opsS_ent (hp.ent.trans (ys_out h)) hk
theorem ys_back {ys : List YE} {k : Nat} {u : YE} (h : ys[k]? = some u) {L : List HP} : Ent (oneY u.2 :: ysH (ys.eraseIdx k) :: L) (ysH ys :: L) := by
  have hk : k < ys.length := (List.getElem?_eq_some_iff.1 h).1
  have hu : ys[k] = u := (List.getElem?_eq_some_iff.1 h).2
  have := ys_in hk u (L := L)
  rw [← hu, List.set_getElem_self] at this
  rw [← hu]
  exact this
theorem YY_set {ys : List YE} (hk : keysOK ys) {k : Nat} {x : Int} {b : Nat} {m : List (Int × Bool)} (h : ys[k]? = some (x, b, m)) (hm : keysOK m) (q : Int) :
    keysOK (ys.set k (x, b, putL m q true)) ∧ YY (ys.set k (x, b, putL m q true)) x q ∧ ∀ x' q', YY ys x' q' → YY (ys.set k (x, b, putL m q true)) x' q' := by
  have hkl : k < ys.length := (List.getElem?_eq_some_iff.1 h).1
  have he := (List.getElem?_eq_some_iff.1 h).2
  have hset : ys.set k (x, b, putL m q true) = putL ys x (b, putL m q true) := by
    rcases keyCase ys hk x with ⟨p, a, r, hpq, hp, hqn⟩ | hn
    · have hkp : k = p.length := by
        rw [hpq] at h
        rcases Nat.lt_trichotomy k p.length with h1 | h1 | h1
        · rw [List.getElem?_append_left h1] at h
          exact absurd rfl (hp _ (List.mem_of_getElem? h))
        · exact h1
        · rw [List.getElem?_append_right (by omega)] at h
          obtain ⟨d, hd⟩ : ∃ d, k - p.length = d + 1 := ⟨k - p.length - 1, by omega⟩
          rw [hd, List.getElem?_cons_succ] at h
          exact absurd rfl (hqn _ (List.mem_of_getElem? h))
      rw [hpq, putL_mid hp hqn, hkp, List.set_append_right _ _ (Nat.le_refl _), Nat.sub_self, List.set_cons_zero]
    · exact absurd rfl (hn _ (List.mem_of_getElem? h))
  have hlk : lkL (α := Nat × List (Int × Bool)) ys x = some (b, m) := (lkL_iff hk).2 (List.mem_of_getElem? h)
  rw [hset]
  refine ⟨putL_ok hk _ _, ⟨(b, putL m q true), by rw [lkL_put hk, if_pos rfl], by rw [lkL_put hm, if_pos rfl]⟩, fun x' q' ⟨t, h1, h2⟩ => ?_⟩
  by_cases hx : x' = x
  · subst hx
    rw [hlk] at h1
    injection h1 with h1
    subst h1
    refine ⟨(b, putL m q true), by rw [lkL_put hk, if_pos rfl], ?_⟩
    rw [lkL_put hm]
    split
    · rfl
    · exact h2
  · exact ⟨t, by rw [lkL_put hk, if_neg hx]; exact h1, h2⟩
theorem YY_new {ys : List YE} {x : Int} {b : Nat} (hx : lkL (α := Nat × List (Int × Bool)) ys x = none) : ∀ x' q', YY ys x' q' → YY (ys ++ [(x, b, [])]) x' q' := by
  rintro x' q' ⟨t, h1, h2⟩
  refine ⟨t, ?_, h2⟩
  rw [lkL_snoc hx, if_neg ?_]
  · exact h1
  · rintro rfl; rw [hx] at h1; cases h1
structure AfterR (j1 : JG) (k : Nat) (Y : Int → Int → Prop) (D1 : List (Int × Int)) (n : NA) (pl : PG) : Prop where
  m : ∀ m ∈ pl.mail, m.2.kind = 5 → n.kind = 7 ∨ lkL D1 m.2.txn = none ∨ (m.2.code = 0 ∧ lkL D1 m.2.txn = some m.2.stamp)
  n : (pl.notes = [] ∧ GI j1 k Y D1) ∨ ∃ r, pl.notes = [r] ∧ NZ r ∧ r.kind ≠ 16 ∧ appGE j1 r = 0 ∧ (r.kind = 22 → lkL D1 r.txn = none) ∧ GI (appG j1 r) k Y D1 ∧ (appG j1 r).done = j1.done ∧ (appG j1 r).last = j1.last
structure RecR (j : JG) (k : Nat) (Y : Int → Int → Prop) (D : List (Int × Int)) (n : NA) (pl : PG) (r : NA) : Prop where
  z : NZ r
  e : appGE j r = 0
  k6 : r.kind ≠ 16
  c : (r.kind ≠ 17 ∧ AfterR (appG j r) k Y D n pl ∧ (appG j r).done = j.done ∧ (appG j r).last = j.last) ∨
    (r.kind = 17 ∧ lkL D r.txn = none ∧ r.stamp = j.last + 1 ∧ lkL j.done r.batch = none ∧ (∀ q ∈ r.parts, Y r.txn q) ∧ AfterR (appG j r) k Y (putL D r.txn r.stamp) n pl ∧ (appG j r).done = putL j.done r.batch r.stamp ∧ (appG j r).last = r.stamp)
theorem OnceC.recs {j : JG} {k : Nat} {Y : Int → Int → Prop} {D : List (Int × Int)} {n : NA} {pl : PG} (hD : keysOK D) (h : OnceC j k Y D n pl) : (pl.rec_ = [] ∧ AfterR j (k + 1) Y D n pl) ∨ ∃ r, pl.rec_ = [r] ∧ RecR j (k + 1) Y D n pl r := by
  have mo : MO n D pl.mail → ∀ m ∈ pl.mail, m.2.kind = 5 → n.kind = 7 ∨ lkL D m.2.txn = none ∨ (m.2.code = 0 ∧ lkL D m.2.txn = some m.2.stamp) := fun h m hm hk => (h m hm hk).imp id .inl
  cases h with
  | a h1 h2 h3 h4 => exact .inl ⟨h1, ⟨mo h3, .inl ⟨h2, h4⟩⟩⟩
  | b r hz h1 h2 h3 hr h4 h5 h6 h7 h8 => exact .inl ⟨h1, ⟨mo h3, .inr ⟨r, h2, hz, by omega, h4, h5, h6, h7, h8⟩⟩⟩
  | c r hz h1 h2 h3 hr h4 h6 h7 h8 => exact .inr ⟨r, h1, hz, h4, by omega, .inl ⟨by omega, ⟨by rw [h3]; exact fun _ h => (by cases h), .inl ⟨h2, h6⟩⟩, h7, h8⟩⟩
  | d r hz h1 h2 hr h3 h4 h5 h6 h7 h8 h9 ha hb =>
    refine .inr ⟨r, h1, hz, h4, by omega, .inr ⟨hr, h5, h6, h7, h8, ⟨fun m hm hk => ?_, .inl ⟨h2, h9⟩⟩, ha, hb⟩⟩
    have := h3 m hm hk
    rw [this.1, this.2.1, lkL_put hD, if_pos rfl]
    exact .inr (.inr ⟨this.2.2, rfl⟩)
theorem mail_len {j : JG} (hW : WG j) (s1 : 1 ≤ j.shards) (s2 : j.shards ≤ 4) (fr : Int) (n : NA) : (planG j fr n).mail.length ≤ 5 := by
  have told : ∀ x t s c, lkL j.tr x = some t → (toldM t s c).length ≤ 5 := fun x t s c h => by
    have := (hW.lk h).pl
    rw [toldM_len]; omega
  unfold planG
  split
  · exact Nat.zero_le _
  split
  · unfold askG
    split
    · exact Nat.le_of_ble_eq_true rfl
    · split
      · exact Nat.zero_le _
      · split
        · exact Nat.le_of_ble_eq_true rfl
        · have hp := partsG_ok s1 n.ops
          have := rise_len hp.1 hp.2 (by omega)
          show (List.map _ (partsG j.shards n.ops)).length ≤ 5
          rw [List.length_map]; omega
  split
  · unfold voteG
    split
    · exact Nat.zero_le _
    · rename_i t ht
      split
      · exact Nat.zero_le _
      split
      · exact told _ t _ _ ht
      split
      · exact Nat.zero_le _
      split
      · exact Nat.zero_le _
      · exact told _ t _ _ ht
  split
  · unfold ackG
    split
    · exact Nat.zero_le _
    · split
      · exact Nat.zero_le _
      split
      · exact Nat.zero_le _
      · exact Nat.zero_le _
  split
  · unfold probeG
    split
    · exact Nat.le_of_ble_eq_true rfl
    · split
      · exact Nat.zero_le _
      · exact Nat.le_of_ble_eq_true rfl
  · exact Nat.zero_le _
structure GO where
  d : Int
  fr : Int
  n : NV
  w : Bool
abbrev GO.cells (o : GO) : List Value := [.int .u8 o.d, .int .i64 o.fr, .int .u8 o.n.kind, .int .u64 o.n.txn, .int .u64 o.n.batch, .int .u64 o.n.stamp, .int .u64 o.n.after, .int .u64 o.n.mark, .int .u64 o.n.query, .int .u64 o.n.id, .int .i64 o.n.k, .int .i64 o.n.ef, .int .i64 o.n.code, .int .i64 o.n.who,
  .slice o.n.pa o.n.parts.length o.n.pc, .slice o.n.oa o.n.ops.length o.n.oc, .slice o.n.va o.n.vec.length o.n.vc, .slice o.n.ha o.n.hits.length o.n.hc, .bool o.w]
structure GOK (M : Nat → Option Obj) (o : GO) : Prop where
  n : okN M o.n
  c : CapN o.n
  u : NumN o.n
  uu : NumA o.n.abs
theorem GOK.mono {M M' : Nat → Option Obj} {o : GO} (h : GOK M o) (hl : leM M M') : GOK M' o := ⟨h.n.mono hl, h.c, h.u, h.uu⟩
theorem NumN.fewG {n' : NV} {n : NV} (h : NumN n) (e : n'.abs = n.abs.few) : NumN n' := by
  have e1 : n'.kind = n.kind := congrArg NA.kind e
  have e2 : n'.txn = n.txn := congrArg NA.txn e
  have e3 : n'.stamp = n.stamp := congrArg NA.stamp e
  have e4 : n'.mark = n.mark := congrArg NA.mark e
  have e5 : n'.after = n.after := congrArg NA.after e
  exact ⟨by rw [e1]; exact h.kind, by rw [e2]; exact h.txn, by rw [e3]; exact h.stamp, by rw [e4]; exact h.mark, by rw [e5]; exact h.after⟩
end Go.Proofs.YtiampehfpgcogaaDoor
namespace Go.Proofs.YtiampehfpgcogaaDoor
open Go Go.SX Go.ChangeShapes Go.WideShapes Go.ChangeAt Go.RowKit
set_option maxHeartbeats 1000000 in
set_option maxRecDepth 100000 in
theorem Rd.go {H : Type} {enc : TypeId × Value → H} {W : World} {cs : List Value} (h : Rd enc Tryd.prog W 38 cs) : ∃ o : GO, cs = o.cells ∧ GOK (all0 W) o := by
  obtain ⟨hl, hf⟩ := h.fields Tryd.underlying38
  obtain ⟨d, h0, _⟩ := Rd.u8b (hf 0 _ rfl)
  obtain ⟨fr, h1, _⟩ := Rd.i64 (hf 1 _ rfl)
  obtain ⟨n, h2, n1, n2, n3, n4⟩ := Rd.note (hf 2 _ rfl)
  obtain ⟨w, h3⟩ := Rd.bool (hf 3 _ rfl) Tryd.underlying4
  have hl' : cs.length = 19 := hl.trans (by kernel_rfl)
  match cs, hl' with
  | [u0, u1, u2, u3, u4, u5, u6, u7, u8, u9, u10, u11, u12, u13, u14, u15, u16, u17, u18], _ =>
    have h0' : [u0] = [Value.int .u8 d] := h0
    have h1' : [u1] = [Value.int .i64 fr] := h1
    have h2' : [u2, u3, u4, u5, u6, u7, u8, u9, u10, u11, u12, u13, u14, u15, u16, u17] = n.cells := h2
    have h3' : [u18] = [Value.bool w] := h3
    simp only [List.cons.injEq, and_true] at h0' h1' h2' h3'
    obtain ⟨e1, e2, e3, e4, e5, e6, e7, e8, e9, e10, e11, e12, e13, e14, e15, e16⟩ := h2'
    subst h0' h1' h3' e1 e2 e3 e4 e5 e6 e7 e8 e9 e10 e11 e12 e13 e14 e15 e16
    exact ⟨⟨d, fr, n, w⟩, rfl, n1, n2, n3, n4⟩
end Go.Proofs.YtiampehfpgcogaaDoor
