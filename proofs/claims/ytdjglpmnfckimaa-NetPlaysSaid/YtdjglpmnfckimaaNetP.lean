/- The document's net, walked. No condition. -/
import Derived.Test.YtdjglpmnfckimaaNetM
set_option linter.unusedVariables false
set_option linter.unusedSimpArgs false
namespace Go.Proofs.Ytdjglpmnfckimaa
open Go Go.SX
attribute [local irreducible] swp opsS thenS blockS retS CallsS St Ent YieldS anyS drawS
def pairC (p : Int × Int) : List Value := [.int .i64 p.1, .int .i64 p.2]
theorem pairC_len (p : Int × Int) : (pairC p).length = 2 := rfl
/-- The document's net. -/
def refH (b : Nat) (nodes : Int) (ls : List Let) (ss : List (Int × Int)) : HP :=
  exH fun vs : List LV => exH fun a : Option Addr => exH fun c : Nat => exH fun a2 : Option Addr => exH fun c2 : Nat => exH fun M : Nat → Option Obj => exH fun t : Nat =>
    allH [pureH (vs.map LV.abs = ls ∧ LSM M a vs ∧ SlM M a2 ss.length 2 (ss.flatMap pairC) ∧ vs.length ≤ c), pt b (cl [.int .i64 nodes, .slice a vs.length c, .slice a2 ss.length c2] t), roM M]
theorem calls_ref {g : FuncId} {args : List Value} {R : Value → List HP → Prop} {L : List HP} {b : Nat} {nodes : Int} {ls : List Let} {ss : List (Int × Int)}
    (h : ∀ (vs : List LV) (a : Option Addr) (c : Nat) (a2 : Option Addr) (c2 : Nat) (M : Nat → Option Obj) (t : Nat), vs.map LV.abs = ls → LSM M a vs → SlM M a2 ss.length 2 (ss.flatMap pairC) → vs.length ≤ c →
      CallsS Try.prog g args (pt b (cl [.int .i64 nodes, .slice a vs.length c, .slice a2 ss.length c2] t) :: roM M :: L) R) : CallsS Try.prog g args (refH b nodes ls ss :: L) R := by
  refine CallsS.ex fun vs => CallsS.ex fun a => CallsS.ex fun c => CallsS.ex fun a2 => CallsS.ex fun c2 => CallsS.ex fun M => CallsS.ex fun t => CallsS.all ?_
  exact CallsS.pure fun hh => h vs a c a2 c2 M t hh.1 hh.2.1 hh.2.2.1 hh.2.2.2
theorem opsS_ref {n : Nat} {ops rest : List Oper} {Q : Post} {f : Env} {L : List HP} {b : Nat} {nodes : Int} {ls : List Let} {ss : List (Int × Int)}
    (h : ∀ (vs : List LV) (a : Option Addr) (c : Nat) (a2 : Option Addr) (c2 : Nat) (M : Nat → Option Obj) (t : Nat), vs.map LV.abs = ls → LSM M a vs → SlM M a2 ss.length 2 (ss.flatMap pairC) → vs.length ≤ c →
      opsS Try.prog n ops rest Q f (pt b (cl [.int .i64 nodes, .slice a vs.length c, .slice a2 ss.length c2] t) :: roM M :: L)) : opsS Try.prog n ops rest Q f (refH b nodes ls ss :: L) := by
  refine opsS_ex fun vs => opsS_ex fun a => opsS_ex fun c => opsS_ex fun a2 => opsS_ex fun c2 => opsS_ex fun M => opsS_ex fun t => opsS_all ?_
  exact opsS_pure fun hh => h vs a c a2 c2 M t hh.1 hh.2.1 hh.2.2.1 hh.2.2.2
theorem ref_shut {L : List HP} {b : Nat} {nodes : Int} {ls : List Let} {ss : List (Int × Int)} {a a2 : Option Addr} {m c m2 c2 t : Nat} {M : Nat → Option Obj} (vs : List LV) (h1 : vs.map LV.abs = ls) (h2 : LSM M a vs) (h3 : SlM M a2 ss.length 2 (ss.flatMap pairC)) (h4 : vs.length ≤ c) (hm : m = vs.length) (hm2 : m2 = ss.length) :
    Ent (pt b (cl [.int .i64 nodes, .slice a m c, .slice a2 m2 c2] t) :: roM M :: L) (refH b nodes ls ss :: L) := by
  subst hm hm2 h1
  refine Ent.trans ?_ (Ent.shut_ex vs)
  refine Ent.trans ?_ (Ent.shut_ex a)
  refine Ent.trans ?_ (Ent.shut_ex c)
  refine Ent.trans ?_ (Ent.shut_ex a2)
  refine Ent.trans ?_ (Ent.shut_ex c2)
  refine Ent.trans ?_ (Ent.shut_ex M)
  refine Ent.trans ?_ (Ent.shut_ex t)
  refine Ent.trans ?_ Ent.shut_all
  exact Ent.shut_pure ⟨rfl, h2, h3, h4⟩
theorem LSM.mono {M M' : Nat → Option Obj} {a : Option Addr} {vs : List LV} (h : LSM M a vs) (hl : leM M M') : LSM M' a vs := ⟨fun v hv => (h.1 v hv).mono hl, h.2.mono hl⟩
set_option maxHeartbeats 400000 in
theorem rpair_spec (b : Nat) (k : Int) (x y : Int) (rs : List Value) (t : Nat) (L : List HP) [h : FindB b L (cl (.int .i64 k :: rs) t)] :
    CallsS Try.prog 32 [.pointer (some ⟨b, 0, none⟩), .int .i64 x, .int .i64 y] L (fun v L' => v = .bool (decide (0 ≤ x ∧ 0 ≤ y ∧ x < k ∧ y < k ∧ x ≠ y)) ∧ L' = L) := by
  refine CallsS.of_body Try.func32 rfl rfl rfl ?_
  repeat' (first | (refine GQ.y ?_; refine Q.y ?_) | refine N.tn ?_ | refine N.tr ?_ | refine N.te ?_ | refine N.bn ?_ | refine N.br ?_ | refine N.be ?_ | refine N.bx rfl ?_ | refine swp_seq ?_ | refine swp_region ?_ | refine opsS_nil ?_ | refine swp_ret ?_ | refine swp_skip ?_ | refine swp_exit ?_ | refine swp_block ?_ | refine swp_cond_true rfl ?_ | refine swp_cond_false rfl ?_ | (refine GQ.g ?_; refine Q.gq ?_) | refine S.gsp rfl rfl (fun hb => ?_) (fun hb => ?_) | refine swp_cond rfl (fun hb => ?_) (fun hb => ?_))
  all_goals refine N.r1 (RV.tmp rfl RV.nil) (Ent.refl _) ⟨?_, rfl⟩
  all_goals refine congrArg Value.bool (Bool.eq_iff_iff.2 ?_)
  all_goals simp [Option.isNone_some, Option.isNone_none, decide_eq_true_eq, decide_eq_false_iff_not, beq_iff_eq, bne_iff_ne, beq_eq_false_iff_ne, Bool.not_eq_true', Bool.not_eq_false', Bool.not_true, Bool.not_false, beq_true, beq_false, true_and, and_true, false_and, and_false, or_false, false_or, true_or, or_true, not_true_eq_false, not_false_eq_true, Bool.true_eq_false, Bool.false_eq_true] at *
  all_goals omega
/-- May a letter come, by the document? -/
def ropen (ls : List Let) (ss : List (Int × Int)) (i : Int) : Bool := decide (0 ≤ i) && (match ls[i.toNat]? with | some l => !decide ((min l.1 l.2.1, max l.1 l.2.1) ∈ ss) | none => false)
set_option maxHeartbeats 1000000 in
theorem ROpen_spec (b : Nat) (nodes : Int) (ls : List Let) (ss : List (Int × Int)) (i : Int) (L : List HP) (hS : ss.length ≤ 100000) :
    CallsS Try.prog 28 [.pointer (some ⟨b, 0, none⟩), .int .i64 i] (refH b nodes ls ss :: L) (fun v L' => v = .bool (ropen ls ss i) ∧ L' = refH b nodes ls ss :: L) := by
  refine calls_ref fun vs a c a2 c2 M t hvs hM hSM hcap => ?_
  have hvl := len_map hvs
  have shut : ∀ {L' : List HP}, L' = refH b nodes ls ss :: L → Ent (pt b (cl [.int .i64 nodes, .slice a vs.length c, .slice a2 ss.length c2] t) :: roM M :: L) L' := fun e => e ▸ ref_shut vs hvs hM hSM hcap rfl rfl
  refine CallsS.of_body Try.func28 rfl rfl rfl ?_
  repeat (first | (refine GQ.y ?_; refine Q.y ?_) | refine N.tn ?_ | refine N.tr ?_ | refine N.te ?_ | refine N.bn ?_ | refine N.br ?_ | refine N.be ?_ | refine N.bx rfl ?_ | refine swp_seq ?_ | refine swp_region ?_ | refine opsS_nil ?_ | refine swp_ret ?_ | refine swp_skip ?_ | refine swp_exit ?_ | refine swp_block ?_ | refine swp_cond_true rfl ?_ | refine swp_cond_false rfl ?_ | (refine GQ.g ?_; refine Q.gq ?_) | (refine GQ.s ?_; refine Q.st ?_))
  by_cases h0 : 0 ≤ i
  case neg =>
    repeat (first | (refine GQ.y ?_; refine Q.y ?_) | refine N.tn ?_ | refine N.tr ?_ | refine N.te ?_ | refine N.bn ?_ | refine N.br ?_ | refine N.be ?_ | refine N.bx rfl ?_ | refine swp_seq ?_ | refine swp_region ?_ | refine opsS_nil ?_ | refine swp_ret ?_ | refine swp_skip ?_ | refine swp_exit ?_ | refine swp_block ?_ | refine swp_cond_true rfl ?_ | refine swp_cond_false rfl ?_ | (refine GQ.g ?_; refine Q.gq ?_) | (refine GQ.s ?_; refine Q.st ?_) | (refine GQ.g ?_; refine Q.gd ?_) | refine Q.ct rfl ?_ | refine Q.cf rfl ?_)
    refine N.r1 (RV.tmp rfl RV.nil) (shut rfl) ⟨by simp [ropen, h0], rfl⟩
  obtain ⟨k, rfl⟩ := Int.eq_ofNat_of_zero_le h0
  by_cases h1 : k < vs.length
  case neg =>
    repeat (first | (refine GQ.y ?_; refine Q.y ?_) | refine N.tn ?_ | refine N.tr ?_ | refine N.te ?_ | refine N.bn ?_ | refine N.br ?_ | refine N.be ?_ | refine N.bx rfl ?_ | refine swp_seq ?_ | refine swp_region ?_ | refine opsS_nil ?_ | refine swp_ret ?_ | refine swp_skip ?_ | refine swp_exit ?_ | refine swp_block ?_ | refine swp_cond_true rfl ?_ | refine swp_cond_false rfl ?_ | (refine GQ.g ?_; refine Q.gq ?_) | (refine GQ.s ?_; refine Q.st ?_) | (refine GQ.g ?_; refine Q.gd ?_) | refine Q.ct rfl ?_ | refine Q.cf rfl ?_)
    refine N.r1 (RV.tmp rfl RV.nil) (shut rfl) ⟨by simp [ropen, List.getElem?_eq_none (show ls.length ≤ k by omega)], rfl⟩
  obtain ⟨v, hv⟩ := mem_get h1
  have hlv := fst_map hvs hv
  have hro : ropen ls ss k = !decide ((min v.fr v.to, max v.fr v.to) ∈ ss) := by simp [ropen, hlv, LV.abs]
  obtain ⟨b2, o2, rfl, hr⟩ := hM.2.cm LV.cells_len hv rfl
  repeat (first | (refine GQ.y ?_; refine Q.y ?_) | refine N.tn ?_ | refine N.tr ?_ | refine N.te ?_ | refine N.bn ?_ | refine N.br ?_ | refine N.be ?_ | refine N.bx rfl ?_ | refine swp_seq ?_ | refine swp_region ?_ | refine opsS_nil ?_ | refine swp_ret ?_ | refine swp_skip ?_ | refine swp_exit ?_ | refine swp_block ?_ | refine swp_cond_true rfl ?_ | refine swp_cond_false rfl ?_ | (refine GQ.g ?_; refine Q.gq ?_) | (refine GQ.s ?_; refine Q.st ?_) | (refine GQ.g ?_; refine Q.gd ?_) | refine Q.ct rfl ?_ | refine Q.cf rfl ?_)
  refine Q.dgo [true, true] [] [] [0, 1, 2, 3, 4, 5, 6, 7, 8, 9, 10, 11, 12, 13, 14, 15, 16, 17] ?_
  repeat (first | refine D.endA ?_ | refine Q.dy rfl rfl rfl ?_ | refine Q.dp rfl rfl rfl ?_ | refine D.end_ ?_ | refine Q.endH ?_ | (refine D.e rfl rfl rfl ?_; (first | refine S.gskip1 rfl ?_ | refine S.gskip rfl ?_ | refine S.y (Y.gskipU rfl) ?_); refine opsS_nil ?_; refine N.tn ?_) | refine Q.dT rfl rfl rfl ?_ | refine Q.dF rfl rfl rfl ?_)
  repeat (first | (refine GQ.y ?_; refine Q.y ?_) | refine N.tn ?_ | refine N.tr ?_ | refine N.te ?_ | refine N.bn ?_ | refine N.br ?_ | refine N.be ?_ | refine N.bx rfl ?_ | refine swp_seq ?_ | refine swp_region ?_ | refine opsS_nil ?_ | refine swp_ret ?_ | refine swp_skip ?_ | refine swp_exit ?_ | refine swp_block ?_ | refine swp_cond_true rfl ?_ | refine swp_cond_false rfl ?_ | (refine GQ.g ?_; refine Q.gq ?_) | (refine GQ.s ?_; refine Q.st ?_) | (refine GQ.g ?_; refine Q.gd ?_) | refine Q.ct rfl ?_ | refine Q.cf rfl ?_)
  refine swp_loop (σ := Nat) (fun j => [(5, .int .i64 v.fr), (6, .int .i64 v.to), (43, .slice a2 ss.length c2), (44, .int .i64 ss.length), (45, .int .i64 j)])
    (fun j => pt b (cl [.int .i64 nodes, .slice (some ⟨b2, o2, none⟩) vs.length c, .slice a2 ss.length c2] t) :: roM M :: L) (fun j => j ≤ ss.length ∧ ∀ p ∈ ss.take j, p ≠ (min v.fr v.to, max v.fr v.to)) (fun j => ss.length - j) 0 ⟨rfl, rfl, rfl, rfl, rfl, trivial⟩ (by repeat (first | exact Ent.refl _ | exact Ent.nil | refine Ent.pick ?_ | refine Ent.nilS ?_ | refine Ent.nilM ?_ | refine Ent.drop ?_)) ⟨by omega, by simp⟩ ?_
  rintro j ⟨hj, hno⟩
  repeat (first | (refine GQ.y ?_; refine Q.y ?_) | refine N.tn ?_ | refine N.tr ?_ | refine N.te ?_ | refine N.bn ?_ | refine N.br ?_ | refine N.be ?_ | refine N.bx rfl ?_ | refine swp_seq ?_ | refine swp_region ?_ | refine opsS_nil ?_ | refine swp_ret ?_ | refine swp_skip ?_ | refine swp_exit ?_ | refine swp_block ?_ | refine swp_cond_true rfl ?_ | refine swp_cond_false rfl ?_ | (refine GQ.g ?_; refine Q.gq ?_) | (refine GQ.s ?_; refine Q.st ?_))
  refine swp_cond rfl (fun hlt => ?_) (fun hge => ?_)
  · have hlt : j < ss.length := by simpa using hlt
    obtain ⟨p, hp⟩ := mem_get hlt
    obtain ⟨b3, o3, rfl, hr3⟩ := hSM.cm pairC_len hp rfl
    obtain ⟨p1, p2⟩ := p
    by_cases hp1 : p1 = min v.fr v.to
    case' pos => by_cases hp2 : p2 = max v.fr v.to
    all_goals repeat (first | (refine GQ.y ?_; refine Q.y ?_) | refine N.tn ?_ | refine N.tr ?_ | refine N.te ?_ | refine N.bn ?_ | refine N.br ?_ | refine N.be ?_ | refine N.bx rfl ?_ | refine swp_seq ?_ | refine swp_region ?_ | refine opsS_nil ?_ | refine swp_ret ?_ | refine swp_skip ?_ | refine swp_exit ?_ | refine swp_block ?_ | refine swp_cond_true rfl ?_ | refine swp_cond_false rfl ?_ | (refine GQ.g ?_; refine Q.gq ?_) | (refine GQ.s ?_; refine Q.st ?_) | (refine GQ.g ?_; refine Q.gd ?_) | refine Q.ct rfl ?_ | refine Q.cf rfl ?_ | (refine GQ.a ?_; refine Q.al (fun b1 => ?_)))
    · refine N.r1 (RV.tmp rfl RV.nil) (Ent.trans (by repeat (first | exact Ent.refl _ | exact Ent.nil | refine Ent.pick ?_ | refine Ent.nilS ?_ | refine Ent.nilM ?_ | refine Ent.drop ?_)) (shut rfl)) ⟨?_, rfl⟩
      have : (min v.fr v.to, max v.fr v.to) ∈ ss := by rw [← hp1, ← hp2]; exact List.mem_of_getElem? hp
      rw [hro]; simp [this]
    all_goals
      refine ⟨j + 1, ⟨rfl, rfl, rfl, rfl, congrArg some (congrArg (Value.int .i64) (by simp)), trivial⟩, by (try dsimp only); repeat (first | exact Ent.refl _ | exact Ent.nil | refine Ent.pick ?_ | refine Ent.nilS ?_ | refine Ent.nilM ?_ | refine Ent.drop ?_), ⟨by omega, fun q hq => ?_⟩, by omega⟩
      rw [take_snoc hp] at hq
      rcases List.mem_append.1 hq with hq | hq
      · exact hno q hq
      · obtain rfl := List.mem_singleton.1 hq
        intro e
        have e' := Prod.mk.inj e
        omega
  · have hj2 : j = ss.length := by
      have : ¬ j < ss.length := by simpa using hge
      omega
    subst hj2
    rw [List.take_length] at hno
    repeat (first | (refine GQ.y ?_; refine Q.y ?_) | refine N.tn ?_ | refine N.tr ?_ | refine N.te ?_ | refine N.bn ?_ | refine N.br ?_ | refine N.be ?_ | refine N.bx rfl ?_ | refine swp_seq ?_ | refine swp_region ?_ | refine opsS_nil ?_ | refine swp_ret ?_ | refine swp_skip ?_ | refine swp_exit ?_ | refine swp_block ?_ | refine swp_cond_true rfl ?_ | refine swp_cond_false rfl ?_ | (refine GQ.g ?_; refine Q.gq ?_) | (refine GQ.s ?_; refine Q.st ?_) | (refine GQ.g ?_; refine Q.gd ?_) | refine Q.ct rfl ?_ | refine Q.cf rfl ?_ | (refine GQ.a ?_; refine Q.al (fun b1 => ?_)))
    refine N.r1 (RV.tmp rfl RV.nil) (Ent.trans (by repeat (first | exact Ent.refl _ | exact Ent.nil | refine Ent.pick ?_ | refine Ent.nilS ?_ | refine Ent.nilM ?_ | refine Ent.drop ?_)) (shut rfl)) ⟨?_, rfl⟩
    have : (min v.fr v.to, max v.fr v.to) ∉ ss := fun h => hno _ h rfl
    rw [hro]; simp [this]
end Go.Proofs.Ytdjglpmnfckimaa
