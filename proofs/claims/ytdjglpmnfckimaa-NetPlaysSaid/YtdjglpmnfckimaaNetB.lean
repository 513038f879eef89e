/- The net's functions, walked: A net as an assertion; copyOf; Post. No condition. -/
import Derived.Test.YtdjglpmnfckimaaNetA
import Derived.Test.YtdjglpmnfckimaaSxT
set_option linter.unusedVariables false
set_option linter.unusedSimpArgs false
namespace Go.Proofs.Ytdjglpmnfckimaa
open Go Go.SX
attribute [local irreducible] swp opsS thenS blockS retS CallsS St Ent YieldS anyS drawS
/-- A letter under way: from, to, its body's slice and bytes. -/
structure LV where
  fr : Int
  to : Int
  a : Option Addr
  c : Nat
  body : List UInt8
def LV.cells (v : LV) : List Value := [.int .i64 v.fr, .int .i64 v.to, .slice v.a v.body.length v.c]
theorem LV.cells_len (v : LV) : v.cells.length = 3 := rfl
set_option maxHeartbeats 400000 in
theorem copyOf_spec (v : LV) (L : List HP) (h : RdS L v.a v.body.length 1 (v.body.map B)) (hm : v.body.length ≤ 1000000) :
    CallsS Try.prog 30 [.agg v.cells.toArray] L (fun r L' => ∃ a' c', r = .agg (LV.cells ⟨v.fr, v.to, a', c', v.body⟩).toArray ∧ L' = slO 5 1 a' v.body.length c' (v.body.map B) :: L) := by
  refine CallsS.of_body Try.func30 rfl rfl rfl ?_
  repeat (first | (refine GQ.y ?_; refine Q.y ?_) | refine N.tn ?_ | refine N.tr ?_ | refine N.te ?_ | refine N.bn ?_ | refine N.br ?_ | refine N.be ?_ | refine N.bx rfl ?_ | refine swp_seq ?_ | refine swp_region ?_ | refine opsS_nil ?_ | refine swp_ret ?_ | refine swp_skip ?_ | refine swp_exit ?_ | refine swp_block ?_ | refine swp_cond_true rfl ?_ | refine swp_cond_false rfl ?_ | (refine GQ.g ?_; refine Q.gq ?_) | (refine GQ.s ?_; refine Q.st ?_))
  refine S.bx rfl (by repeat (first | exact nz | (apply cz; exact rfl) | exact rfl)) (fun b1 => ?_)
  refine S.al (fun b2 => ?_)
  repeat (first | (refine GQ.y ?_; refine Q.y ?_) | refine N.tn ?_ | refine N.tr ?_ | refine N.te ?_ | refine N.bn ?_ | refine N.br ?_ | refine N.be ?_ | refine N.bx rfl ?_ | refine swp_seq ?_ | refine swp_region ?_ | refine opsS_nil ?_ | refine swp_ret ?_ | refine swp_skip ?_ | refine swp_exit ?_ | refine swp_block ?_ | refine swp_cond_true rfl ?_ | refine swp_cond_false rfl ?_ | (refine GQ.g ?_; refine Q.gq ?_) | (refine GQ.s ?_; refine Q.st ?_))
  refine S.cr rfl (bclone_spec _ _ _ _ _ h.sub hm) ?_
  rintro _ _ ⟨a', c', rfl, rfl⟩
  repeat (first | (refine GQ.y ?_; refine Q.y ?_) | refine N.tn ?_ | refine N.tr ?_ | refine N.te ?_ | refine N.bn ?_ | refine N.br ?_ | refine N.be ?_ | refine N.bx rfl ?_ | refine swp_seq ?_ | refine swp_region ?_ | refine opsS_nil ?_ | refine swp_ret ?_ | refine swp_skip ?_ | refine swp_exit ?_ | refine swp_block ?_ | refine swp_cond_true rfl ?_ | refine swp_cond_false rfl ?_ | (refine GQ.g ?_; refine Q.gq ?_) | (refine GQ.s ?_; refine Q.st ?_))
  refine N.r1 (by apply RV.cellN; rfl; exact RdC.row; rfl; exact RV.nil) ?_ ⟨a', c', rfl, rfl⟩
  repeat (first | exact Ent.refl _ | exact Ent.nil | refine Ent.pick ?_ | refine Ent.nilS ?_ | refine Ent.nilM ?_ | refine Ent.drop ?_)
abbrev LV.abs (v : LV) : Int × Int × List UInt8 := (v.fr, v.to, v.body)
def good (M : Nat → Option Obj) (v : LV) : Prop := SlM M v.a v.body.length 1 (v.body.map B) ∧ v.body.length ≤ 4102
theorem good.mono {M M' : Nat → Option Obj} {v : LV} (h : good M v) (hl : leM M M') : good M' v := ⟨h.1.mono hl, h.2⟩
/-- A net: its nodes, its letters under way, which pairs are split. -/
def netH (b : Nat) (nodes : Int) (ls : List (Int × Int × List UInt8)) (sp : List Bool) : HP :=
  exH fun vs : List LV => exH fun a : Option Addr => exH fun c : Nat => exH fun M : Nat → Option Obj => exH fun t : Nat =>
    allH [pureH (vs.map LV.abs = ls ∧ ∀ v ∈ vs, good M v), pt b (cl (.int .i64 nodes :: .slice a vs.length c :: sp.map .bool) t), slO 33 3 a vs.length c (vs.flatMap LV.cells), roM M]
theorem swp_net {n : Nat} {cd : Code} {Q : Post} {f : Env} {L : List HP} {b : Nat} {nodes : Int} {ls : List (Int × Int × List UInt8)} {sp : List Bool}
    (h : ∀ (vs : List LV) (a : Option Addr) (c : Nat) (M : Nat → Option Obj) (t : Nat), vs.map LV.abs = ls → (∀ v ∈ vs, good M v) → swp Try.prog n cd Q f (pt b (cl (.int .i64 nodes :: .slice a vs.length c :: sp.map .bool) t) :: slO 33 3 a vs.length c (vs.flatMap LV.cells) :: roM M :: L)) : swp Try.prog n cd Q f (netH b nodes ls sp :: L) := by
  refine swp_ex fun vs => swp_ex fun a => swp_ex fun c => swp_ex fun M => swp_ex fun t => swp_all ?_
  exact swp_pure fun hh => h vs a c M t hh.1 hh.2
theorem opsS_net {n : Nat} {ops rest : List Oper} {Q : Post} {f : Env} {L : List HP} {b : Nat} {nodes : Int} {ls : List (Int × Int × List UInt8)} {sp : List Bool}
    (h : ∀ (vs : List LV) (a : Option Addr) (c : Nat) (M : Nat → Option Obj) (t : Nat), vs.map LV.abs = ls → (∀ v ∈ vs, good M v) → opsS Try.prog n ops rest Q f (pt b (cl (.int .i64 nodes :: .slice a vs.length c :: sp.map .bool) t) :: slO 33 3 a vs.length c (vs.flatMap LV.cells) :: roM M :: L)) : opsS Try.prog n ops rest Q f (netH b nodes ls sp :: L) := by
  refine opsS_ex fun vs => opsS_ex fun a => opsS_ex fun c => opsS_ex fun M => opsS_ex fun t => opsS_all ?_
  exact opsS_pure fun hh => h vs a c M t hh.1 hh.2
theorem calls_net {g : FuncId} {args : List Value} {R : Value → List HP → Prop} {L : List HP} {b : Nat} {nodes : Int} {ls : List (Int × Int × List UInt8)} {sp : List Bool}
    (h : ∀ (vs : List LV) (a : Option Addr) (c : Nat) (M : Nat → Option Obj) (t : Nat), vs.map LV.abs = ls → (∀ v ∈ vs, good M v) → CallsS Try.prog g args (pt b (cl (.int .i64 nodes :: .slice a vs.length c :: sp.map .bool) t) :: slO 33 3 a vs.length c (vs.flatMap LV.cells) :: roM M :: L) R) : CallsS Try.prog g args (netH b nodes ls sp :: L) R := by
  refine CallsS.ex fun vs => CallsS.ex fun a => CallsS.ex fun c => CallsS.ex fun M => CallsS.ex fun t => CallsS.all ?_
  exact CallsS.pure fun hh => h vs a c M t hh.1 hh.2
theorem net_shut {L : List HP} {b : Nat} {nodes : Int} {ls : List (Int × Int × List UInt8)} {sp : List Bool} {a : Option Addr} {m c t : Nat} {cs : List Value} {M : Nat → Option Obj} (vs : List LV) (hg : ∀ v ∈ vs, good M v) (hls : vs.map LV.abs = ls) (hm : m = vs.length) (hcs : cs = vs.flatMap LV.cells) :
    Ent (pt b (cl (.int .i64 nodes :: .slice a m c :: sp.map .bool) t) :: slO 33 3 a m c cs :: roM M :: L) (netH b nodes ls sp :: L) := by
  subst hm hcs hls
  refine Ent.trans ?_ (Ent.shut_ex vs)
  refine Ent.trans ?_ (Ent.shut_ex a)
  refine Ent.trans ?_ (Ent.shut_ex c)
  refine Ent.trans ?_ (Ent.shut_ex M)
  refine Ent.trans ?_ (Ent.shut_ex t)
  refine Ent.trans ?_ Ent.shut_all
  exact Ent.shut_pure ⟨rfl, hg⟩
/-- May a letter be posted? -/
def okL (nodes : Int) (w : LV) : Bool := decide (0 ≤ w.fr ∧ 0 ≤ w.to ∧ w.fr < nodes ∧ w.to < nodes ∧ w.fr ≠ w.to) && decide (w.body.length ≤ 4102)


set_option maxHeartbeats 1000000 in
theorem Post_spec (b : Nat) (nodes : Int) (ls : List (Int × Int × List UInt8)) (sp : List Bool) (a : Option Addr) (c : Nat) (ws : List LV) (L : List HP)
    (h : RdS L a ws.length 3 (ws.flatMap LV.cells)) (hb : ∀ w ∈ ws, RdS L w.a w.body.length 1 (w.body.map B) ∧ w.body.length ≤ 1000000) (hw : ws.length ≤ 100000) (hl : ls.length ≤ 100000) :
    CallsS Try.prog 11 [.pointer (some ⟨b, 0, none⟩), .slice a ws.length c] (netH b nodes ls sp :: L)
      (fun v L' => v = .int .i64 (ws.filter (okL nodes)).length ∧ L' = netH b nodes (ls ++ (ws.filter (okL nodes)).map LV.abs) sp :: L) := by
  refine CallsS.of_body Try.func11 rfl rfl rfl ?_
  repeat (first | (refine GQ.y ?_; refine Q.y ?_) | refine N.tn ?_ | refine N.tr ?_ | refine N.te ?_ | refine N.bn ?_ | refine N.br ?_ | refine N.be ?_ | refine N.bx rfl ?_ | refine swp_seq ?_ | refine swp_region ?_ | refine opsS_nil ?_ | refine swp_ret ?_ | refine swp_skip ?_ | refine swp_exit ?_ | refine swp_block ?_ | refine swp_cond_true rfl ?_ | refine swp_cond_false rfl ?_ | (refine GQ.g ?_; refine Q.gq ?_) | (refine GQ.s ?_; refine Q.st ?_))
  refine swp_loop (σ := Nat) (fun k => [(0, .pointer (some ⟨b, 0, none⟩)), (10, .slice a ws.length c), (11, .int .i64 ws.length), (5, .int .i64 ((ws.take k).filter (okL nodes)).length), (12, .int .i64 k)])
    (fun k => netH b nodes (ls ++ ((ws.take k).filter (okL nodes)).map LV.abs) sp :: L) (fun k => k ≤ ws.length) (fun k => ws.length - k) 0 ⟨rfl, rfl, rfl, rfl, rfl, trivial⟩ (by simpa using Ent.refl _) (by omega) ?_
  intro k hk
  repeat (first | (refine GQ.y ?_; refine Q.y ?_) | refine N.tn ?_ | refine N.tr ?_ | refine N.te ?_ | refine N.bn ?_ | refine N.br ?_ | refine N.be ?_ | refine N.bx rfl ?_ | refine swp_seq ?_ | refine swp_region ?_ | refine opsS_nil ?_ | refine swp_ret ?_ | refine swp_skip ?_ | refine swp_exit ?_ | refine swp_block ?_ | refine swp_cond_true rfl ?_ | refine swp_cond_false rfl ?_ | (refine GQ.g ?_; refine Q.gq ?_) | (refine GQ.s ?_; refine Q.st ?_))
  refine swp_cond rfl (fun hlt => ?_) (fun hge => ?_)
  · have hlt : k < ws.length := by simpa using hlt
    obtain ⟨w, hwk⟩ := mem_get hlt
    obtain ⟨b2, o2, rfl, hr⟩ := h.elem LV.cells_len hwk rfl
    obtain ⟨hwb, hwl⟩ := hb w (List.mem_of_getElem? hwk)
    repeat (first | (refine GQ.y ?_; refine Q.y ?_) | refine N.tn ?_ | refine N.tr ?_ | refine N.te ?_ | refine N.bn ?_ | refine N.br ?_ | refine N.be ?_ | refine N.bx rfl ?_ | refine swp_seq ?_ | refine swp_region ?_ | refine opsS_nil ?_ | refine swp_ret ?_ | refine swp_skip ?_ | refine swp_exit ?_ | refine swp_block ?_ | refine swp_cond_true rfl ?_ | refine swp_cond_false rfl ?_ | (refine GQ.g ?_; refine Q.gq ?_) | (refine GQ.s ?_; refine Q.st ?_))
    try refine S.y (by apply K.load; exact Y.ldRN rfl hr.sub rfl) ?_
    refine S.al (fun b3 => ?_)
    repeat (first | (refine GQ.y ?_; refine Q.y ?_) | refine N.tn ?_ | refine N.tr ?_ | refine N.te ?_ | refine N.bn ?_ | refine N.br ?_ | refine N.be ?_ | refine N.bx rfl ?_ | refine swp_seq ?_ | refine swp_region ?_ | refine opsS_nil ?_ | refine swp_ret ?_ | refine swp_skip ?_ | refine swp_exit ?_ | refine swp_block ?_ | refine swp_cond_true rfl ?_ | refine swp_cond_false rfl ?_ | (refine GQ.g ?_; refine Q.gq ?_) | (refine GQ.s ?_; refine Q.st ?_))
    refine opsS_ent (Ent.perm (.swap _ _ _)) (opsS_net fun vs a' c' M t hvs hgo => ?_)
    have hvl : vs.length ≤ 200000 := by
      have h1 := congrArg List.length hvs
      have h2 := List.length_filter_le (okL nodes) (ws.take k)
      simp only [List.length_append, List.length_map, List.length_take] at h1 h2
      omega
    refine S.cr rfl (pair_spec b nodes w.fr w.to _ t _) ?_
    rintro _ _ ⟨rfl, rfl⟩
    have hs : okL nodes w = true → (ws.take (k + 1)).filter (okL nodes) = (ws.take k).filter (okL nodes) ++ [w] := fun h => by rw [take_snoc hwk]; simp [h]
    have hn : okL nodes w = false → (ws.take (k + 1)).filter (okL nodes) = (ws.take k).filter (okL nodes) := fun h => by rw [take_snoc hwk]; simp [h]
    have hcb : ((ws.take k).filter (okL nodes)).length ≤ 100000 := by have := List.length_filter_le (okL nodes) (ws.take k); simp only [List.length_take] at this; omega
    by_cases hok : 0 ≤ w.fr ∧ 0 ≤ w.to ∧ w.fr < nodes ∧ w.to < nodes ∧ w.fr ≠ w.to
    · rw [decide_eq_true hok]
      repeat (first | (refine GQ.y ?_; refine Q.y ?_) | refine N.tn ?_ | refine N.tr ?_ | refine N.te ?_ | refine N.bn ?_ | refine N.br ?_ | refine N.be ?_ | refine N.bx rfl ?_ | refine swp_seq ?_ | refine swp_region ?_ | refine opsS_nil ?_ | refine swp_ret ?_ | refine swp_skip ?_ | refine swp_exit ?_ | refine swp_block ?_ | refine swp_cond_true rfl ?_ | refine swp_cond_false rfl ?_ | (refine GQ.g ?_; refine Q.gq ?_) | (refine GQ.s ?_; refine Q.st ?_))
      refine swp_cond rfl (fun h2 => ?_) (fun h2 => ?_)
      · have h2' : w.body.length ≤ 4102 := by have : (w.body.length : Int) ≤ 4102 := by simpa using h2
                                              omega
        repeat (first | (refine GQ.y ?_; refine Q.y ?_) | refine N.tn ?_ | refine N.tr ?_ | refine N.te ?_ | refine N.bn ?_ | refine N.br ?_ | refine N.be ?_ | refine N.bx rfl ?_ | refine swp_seq ?_ | refine swp_region ?_ | refine opsS_nil ?_ | refine swp_ret ?_ | refine swp_skip ?_ | refine swp_exit ?_ | refine swp_block ?_ | refine swp_cond_true rfl ?_ | refine swp_cond_false rfl ?_ | (refine GQ.g ?_; refine Q.gq ?_) | (refine GQ.s ?_; refine Q.st ?_))
        refine Q.dgo [true, false, false, true] [6, 7, 8, 11] [11] [0, 1, 2, 3, 4, 5, 6, 7, 8, 9, 10, 11] ?_
        repeat (first | refine D.endA ?_ | refine Q.dy rfl rfl rfl ?_ | refine Q.dp rfl rfl rfl ?_ | refine D.end_ ?_ | refine Q.endH ?_ | (refine D.e rfl rfl rfl ?_; (first | refine S.gskip1 rfl ?_ | refine S.gskip rfl ?_ | refine S.y (Y.gskipU rfl) ?_); refine opsS_nil ?_; refine N.tn ?_))
        refine D.e rfl rfl rfl ?_
        refine S.cr rfl (copyOf_spec w _ hwb.sub hwl) ?_
        rintro _ _ ⟨a4, c4, rfl, rfl⟩
        refine opsS_absorb fun M' hle hsl => ?_
        repeat (first | (refine GQ.y ?_; refine Q.y ?_) | refine N.tn ?_ | refine N.tr ?_ | refine N.te ?_ | refine N.bn ?_ | refine N.br ?_ | refine N.be ?_ | refine N.bx rfl ?_ | refine swp_seq ?_ | refine swp_region ?_ | refine opsS_nil ?_ | refine swp_ret ?_ | refine swp_skip ?_ | refine swp_exit ?_ | refine swp_block ?_ | refine swp_cond_true rfl ?_ | refine swp_cond_false rfl ?_ | (refine GQ.g ?_; refine Q.gq ?_) | (refine GQ.s ?_; refine Q.st ?_))
        refine D.e rfl rfl rfl ?_
        refine S.bs rfl rfl rfl rfl (by repeat (first | exact nz | (apply cz; exact rfl) | exact rfl)) (fun b4 => ?_)
        repeat (first | (refine GQ.y ?_; refine Q.y ?_) | refine N.tn ?_ | refine N.tr ?_ | refine N.te ?_ | refine N.bn ?_ | refine N.br ?_ | refine N.be ?_ | refine N.bx rfl ?_ | refine swp_seq ?_ | refine swp_region ?_ | refine opsS_nil ?_ | refine swp_ret ?_ | refine swp_skip ?_ | refine swp_exit ?_ | refine swp_block ?_ | refine swp_cond_true rfl ?_ | refine swp_cond_false rfl ?_ | (refine GQ.g ?_; refine Q.gq ?_) | (refine GQ.s ?_; refine Q.st ?_))
        refine D.e rfl rfl rfl ?_
        refine S.app rfl rfl (SrcS.sl RdC.row (by rfl) (by rfl)) (by rfl) (by omega) (by omega) (fun a5 c5 => ?_)
        repeat (first | (refine GQ.y ?_; refine Q.y ?_) | refine N.tn ?_ | refine N.tr ?_ | refine N.te ?_ | refine N.bn ?_ | refine N.br ?_ | refine N.be ?_ | refine N.bx rfl ?_ | refine swp_seq ?_ | refine swp_region ?_ | refine opsS_nil ?_ | refine swp_ret ?_ | refine swp_skip ?_ | refine swp_exit ?_ | refine swp_block ?_ | refine swp_cond_true rfl ?_ | refine swp_cond_false rfl ?_ | (refine GQ.g ?_; refine Q.gq ?_) | (refine GQ.s ?_; refine Q.st ?_))
        repeat (first | refine D.endA ?_ | refine Q.dy rfl rfl rfl ?_ | refine Q.dp rfl rfl rfl ?_ | refine D.end_ ?_ | refine Q.endH ?_ | (refine D.e rfl rfl rfl ?_; (first | refine S.gskip1 rfl ?_ | refine S.gskip rfl ?_ | refine S.y (Y.gskipU rfl) ?_); refine opsS_nil ?_; refine N.tn ?_))
        refine Q.dc rfl rfl rfl rfl ?_
        repeat (first | (refine GQ.y ?_; refine Q.y ?_) | refine N.tn ?_ | refine N.tr ?_ | refine N.te ?_ | refine N.bn ?_ | refine N.br ?_ | refine N.be ?_ | refine N.bx rfl ?_ | refine swp_seq ?_ | refine swp_region ?_ | refine opsS_nil ?_ | refine swp_ret ?_ | refine swp_skip ?_ | refine swp_exit ?_ | refine swp_block ?_ | refine swp_cond_true rfl ?_ | refine swp_cond_false rfl ?_ | (refine GQ.g ?_; refine Q.gq ?_) | (refine GQ.s ?_; refine Q.st ?_))
        repeat (first | refine D.endA ?_ | refine Q.dy rfl rfl rfl ?_ | refine Q.dp rfl rfl rfl ?_ | refine D.end_ ?_ | refine Q.endH ?_ | (refine D.e rfl rfl rfl ?_; (first | refine S.gskip1 rfl ?_ | refine S.gskip rfl ?_ | refine S.y (Y.gskipU rfl) ?_); refine opsS_nil ?_; refine N.tn ?_))
        repeat (first | (refine GQ.y ?_; refine Q.y ?_) | refine N.tn ?_ | refine N.tr ?_ | refine N.te ?_ | refine N.bn ?_ | refine N.br ?_ | refine N.be ?_ | refine N.bx rfl ?_ | refine swp_seq ?_ | refine swp_region ?_ | refine opsS_nil ?_ | refine swp_ret ?_ | refine swp_skip ?_ | refine swp_exit ?_ | refine swp_block ?_ | refine swp_cond_true rfl ?_ | refine swp_cond_false rfl ?_ | (refine GQ.g ?_; refine Q.gq ?_) | (refine GQ.s ?_; refine Q.st ?_))
        refine ⟨k + 1, ⟨rfl, rfl, rfl, congrArg some (congrArg (Value.int .i64) ?_), congrArg some (congrArg (Value.int .i64) ?_), trivial⟩, ?_, by omega, by omega⟩
        · rw [hs (by simp [okL, hok, h2'])]; simp
        · simp
        · rw [hs (by simp [okL, hok, h2'])]
          refine Ent.trans ?_ (net_shut (a := a5) (m := vs.length + 1) (c := c5) (t := t) (cs := vs.flatMap LV.cells ++ [.int .i64 w.fr, .int .i64 w.to, .slice a4 w.body.length c4]) (M := M') (vs ++ [⟨w.fr, w.to, a4, c4, w.body⟩]) ?_ ?_ (by simp) (by simp [LV.cells]))
          · repeat (first | exact Ent.refl _ | exact Ent.nil | refine Ent.pick ?_ | refine Ent.nilS ?_ | refine Ent.nilM ?_ | refine Ent.drop ?_)
          · intro v hv
            rcases List.mem_append.1 hv with hv | hv
            · exact (hgo v hv).mono hle
            · obtain rfl := List.mem_singleton.1 hv; exact ⟨hsl, h2'⟩
          · simp [hvs, LV.abs]
      · have h2' : ¬ w.body.length ≤ 4102 := by have : ¬ (w.body.length : Int) ≤ 4102 := by simpa using h2
                                                omega
        repeat (first | (refine GQ.y ?_; refine Q.y ?_) | refine N.tn ?_ | refine N.tr ?_ | refine N.te ?_ | refine N.bn ?_ | refine N.br ?_ | refine N.be ?_ | refine N.bx rfl ?_ | refine swp_seq ?_ | refine swp_region ?_ | refine opsS_nil ?_ | refine swp_ret ?_ | refine swp_skip ?_ | refine swp_exit ?_ | refine swp_block ?_ | refine swp_cond_true rfl ?_ | refine swp_cond_false rfl ?_ | (refine GQ.g ?_; refine Q.gq ?_) | (refine GQ.s ?_; refine Q.st ?_))
        refine ⟨k + 1, ⟨rfl, rfl, rfl, congrArg some (congrArg (Value.int .i64) ?_), congrArg some (congrArg (Value.int .i64) ?_), trivial⟩, ?_, by omega, by omega⟩
        · rw [hn (by simp [okL, hok, h2'])]
        · simp
        · rw [hn (by simp [okL, hok, h2'])]
          refine Ent.trans ?_ (net_shut (a := a') (c := c') (t := t) vs hgo hvs rfl rfl)
          repeat (first | exact Ent.refl _ | exact Ent.nil | refine Ent.pick ?_ | refine Ent.nilS ?_ | refine Ent.nilM ?_ | refine Ent.drop ?_)
    · rw [decide_eq_false hok]
      repeat (first | (refine GQ.y ?_; refine Q.y ?_) | refine N.tn ?_ | refine N.tr ?_ | refine N.te ?_ | refine N.bn ?_ | refine N.br ?_ | refine N.be ?_ | refine N.bx rfl ?_ | refine swp_seq ?_ | refine swp_region ?_ | refine opsS_nil ?_ | refine swp_ret ?_ | refine swp_skip ?_ | refine swp_exit ?_ | refine swp_block ?_ | refine swp_cond_true rfl ?_ | refine swp_cond_false rfl ?_ | (refine GQ.g ?_; refine Q.gq ?_) | (refine GQ.s ?_; refine Q.st ?_))
      refine ⟨k + 1, ⟨rfl, rfl, rfl, congrArg some (congrArg (Value.int .i64) ?_), congrArg some (congrArg (Value.int .i64) ?_), trivial⟩, ?_, by omega, by omega⟩
      · rw [hn (by simp [okL, hok])]
      · simp
      · rw [hn (by simp [okL, hok])]
        refine Ent.trans ?_ (net_shut (a := a') (c := c') (t := t) vs hgo hvs rfl rfl)
        repeat (first | exact Ent.refl _ | exact Ent.nil | refine Ent.pick ?_ | refine Ent.nilS ?_ | refine Ent.nilM ?_ | refine Ent.drop ?_)
  · have hk2 : k = ws.length := by have : ¬ k < ws.length := by simpa using hge
                                   omega
    subst hk2
    simp only [List.take_length]
    repeat (first | (refine GQ.y ?_; refine Q.y ?_) | refine N.tn ?_ | refine N.tr ?_ | refine N.te ?_ | refine N.bn ?_ | refine N.br ?_ | refine N.be ?_ | refine N.bx rfl ?_ | refine swp_seq ?_ | refine swp_region ?_ | refine opsS_nil ?_ | refine swp_ret ?_ | refine swp_skip ?_ | refine swp_exit ?_ | refine swp_block ?_ | refine swp_cond_true rfl ?_ | refine swp_cond_false rfl ?_ | (refine GQ.g ?_; refine Q.gq ?_) | (refine GQ.s ?_; refine Q.st ?_))
    refine N.r1 (RV.tmp rfl RV.nil) ?_ ⟨rfl, rfl⟩
    repeat (first | exact Ent.refl _ | exact Ent.nil | refine Ent.pick ?_ | refine Ent.nilS ?_ | refine Ent.nilM ?_ | refine Ent.drop ?_)
end Go.Proofs.Ytdjglpmnfckimaa
