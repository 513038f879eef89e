/- The net's functions, walked: awake. No condition. -/
import Derived.Test.YtdjglpmnfckimaaNetG
import Derived.Test.YtdjglpmnfckimaaSxM
set_option linter.unusedVariables false
set_option linter.unusedSimpArgs false
namespace Go.Proofs.Ytdjglpmnfckimaa
open Go Go.SX
attribute [local irreducible] swp opsS thenS blockS retS CallsS St Ent YieldS anyS drawS
/-- The net at a block. -/
class PickNet (b : Nat) (L : List HP) (nodes : outParam Int) (ls : outParam (List Let)) (sp : outParam (List Bool)) (L0 : outParam (List HP)) : Prop where
  ent : Ent L (netH b nodes ls sp :: L0)
instance PickNet.here {b : Nat} {L : List HP} {nodes : Int} {ls : List Let} {sp : List Bool} : PickNet b (netH b nodes ls sp :: L) nodes ls sp L := ⟨Ent.refl _⟩
instance (priority := low) PickNet.there {b : Nat} {A : HP} {L L0 : List HP} {nodes : Int} {ls : List Let} {sp : List Bool} [h : PickNet b L nodes ls sp L0] : PickNet b (A :: L) nodes ls sp (A :: L0) := ⟨(h.ent.cons).trans (Ent.perm (.swap _ _ _))⟩
theorem S.cn {P : Program} {n : Nat} {ops rest : List Oper} {Q : Post} {f : Env} {L : List HP} {d : Tmp} {ty : TypeId} {pos : String} {af : Array Edge} {L0 : List HP} {g : FuncId} {xs : Array Operand} {ats : Array TypeId} {args : List Value} {R : Value → List HP → Prop} (b : Nat) {nodes : Int} {ls : List Let} {sp : List Bool} [he : Enters P g]
    [hp : PickNet b L nodes ls sp L0] (hx : argsL f xs.toList = some args) (hc : CallsS P g args (netH b nodes ls sp :: L0) R) (hk : ∀ v L', R v L' → opsS P n ops rest Q (upd f d v) L') :
    opsS P n ops (⟨some d, .call ⟨.value (.func g), xs, ats⟩, ty, pos, af, none⟩ :: rest) Q f L := opsS_ent hp.ent (S.cr hx hc hk)
theorem netOK_of {nodes : Int} {ls : List Let} {sp : List Bool} (h1 : 1 ≤ nodes) (h2 : nodes ≤ 16) (h3 : sp.length = 256) (h4 : (ls.all fun l => decide (0 ≤ l.1 ∧ 0 ≤ l.2.1 ∧ l.1 < nodes ∧ l.2.1 < nodes ∧ l.1 ≠ l.2.1 ∧ l.2.2.length ≤ 4102)) = true) (h5 : ls.length ≤ 100000) : netOK nodes ls sp :=
  ⟨h1, h2, h3, fun l hl => of_decide_eq_true (List.all_eq_true.1 h4 l hl), h5⟩
theorem rep256 : (List.replicate 256 false).length = 256 := List.length_replicate ..
theorem rep256s {i : Nat} {v : Bool} {j : Nat} {u : Bool} : (((List.replicate 256 false).set i v).set j u).length = 256 := by rw [List.length_set, List.length_set, rep256]
theorem Post_eq (b : Nat) (nodes : Int) (ls : List Let) (sp : List Bool) (a : Option Addr) (c : Nat) (ws : List LV) (cnt : Nat) (ls' : List Let) (L : List HP)
    (h : RdS L a ws.length 3 (ws.flatMap LV.cells)) (hb : ∀ w ∈ ws, RdS L w.a w.body.length 1 (w.body.map B) ∧ w.body.length ≤ 1000000) (hw : ws.length ≤ 100000) (hl : ls.length ≤ 100000)
    (hc : (ws.filter (okL nodes)).length = cnt) (hs : ls ++ (ws.filter (okL nodes)).map LV.abs = ls') :
    CallsS Try.prog 11 [.pointer (some ⟨b, 0, none⟩), .slice a ws.length c] (netH b nodes ls sp :: L)
      (fun v L' => v = .int .i64 cnt ∧ L' = netH b nodes ls' sp :: L) := by
  subst hc hs
  exact Post_spec b nodes ls sp a c ws L h hb hw hl
theorem Take_eq (b : Nat) (nodes : Int) (ls : List Let) (sp : List Bool) (k : Nat) (fr to : Int) (body : List UInt8) (ls' : List Let) (L : List HP) (hok : netOK nodes ls sp) (hl : ls[k]? = some (fr, to, body)) (ho : openB ls sp k = true) (he : ls.eraseIdx k = ls') :
    CallsS Try.prog 13 [.pointer (some ⟨b, 0, none⟩), .int .i64 k] (netH b nodes ls sp :: L)
      (fun v L' => ∃ a c, v = .tuple #[.agg #[.int .i64 fr, .int .i64 to, .slice a body.length c], .int .i64 0] ∧ L' = slO 5 1 a body.length c (body.map B) :: netH b nodes ls' sp :: L) := by
  subst he
  exact Take_ok b nodes ls sp k (fr, to, body) L hok hl ho
set_option maxHeartbeats 2000000 in
theorem awake_spec (L : List HP) : CallsS Try.prog 8 [] L (fun v L' => v = .bool true ∧ L' = L) := by
  refine CallsS.of_body Try.func8 rfl rfl rfl ?_
  repeat (first | (refine GQ.y ?_; refine Q.y ?_) | refine N.tn ?_ | refine N.tr ?_ | refine N.te ?_ | refine N.bn ?_ | refine N.br ?_ | refine N.be ?_ | refine N.bx rfl ?_ | refine swp_seq ?_ | refine swp_region ?_ | refine opsS_nil ?_ | refine swp_ret ?_ | refine swp_skip ?_ | refine swp_exit ?_ | refine swp_block ?_ | refine swp_cond_true rfl ?_ | refine swp_cond_false rfl ?_ | (refine GQ.g ?_; refine Q.gq ?_) | (refine GQ.s ?_; refine Q.st ?_))
  refine S.cr rfl (New_spec 3 _ (by decide) (by decide)) ?_
  rintro _ _ ⟨b, rfl, rfl⟩
  repeat (first | (refine GQ.y ?_; refine Q.y ?_) | refine N.tn ?_ | refine N.tr ?_ | refine N.te ?_ | refine N.bn ?_ | refine N.br ?_ | refine N.be ?_ | refine N.bx rfl ?_ | refine swp_seq ?_ | refine swp_region ?_ | refine opsS_nil ?_ | refine swp_ret ?_ | refine swp_skip ?_ | refine swp_exit ?_ | refine swp_block ?_ | refine swp_cond_true rfl ?_ | refine swp_cond_false rfl ?_ | (refine GQ.g ?_; refine Q.gq ?_) | (refine GQ.s ?_; refine Q.st ?_) | (refine GQ.g ?_; refine Q.gd ?_) | refine Q.ct rfl ?_ | refine Q.cf rfl ?_)
  refine S.bs rfl rfl rfl rfl (by repeat (first | exact nz | (apply cz; exact rfl) | exact rfl)) (fun b1 => ?_)
  repeat (first | (refine GQ.y ?_; refine Q.y ?_) | refine N.tn ?_ | refine N.tr ?_ | refine N.te ?_ | refine N.bn ?_ | refine N.br ?_ | refine N.be ?_ | refine N.bx rfl ?_ | refine swp_seq ?_ | refine swp_region ?_ | refine opsS_nil ?_ | refine swp_ret ?_ | refine swp_skip ?_ | refine swp_exit ?_ | refine swp_block ?_ | refine swp_cond_true rfl ?_ | refine swp_cond_false rfl ?_ | (refine GQ.g ?_; refine Q.gq ?_) | (refine GQ.s ?_; refine Q.st ?_) | (refine GQ.g ?_; refine Q.gd ?_) | refine Q.ct rfl ?_ | refine Q.cf rfl ?_)
  refine S.cvm (t0 := 5) rfl rfl (fun M1 h1 => ?_)
  repeat (first | (refine GQ.y ?_; refine Q.y ?_) | refine N.tn ?_ | refine N.tr ?_ | refine N.te ?_ | refine N.bn ?_ | refine N.br ?_ | refine N.be ?_ | refine N.bx rfl ?_ | refine swp_seq ?_ | refine swp_region ?_ | refine opsS_nil ?_ | refine swp_ret ?_ | refine swp_skip ?_ | refine swp_exit ?_ | refine swp_block ?_ | refine swp_cond_true rfl ?_ | refine swp_cond_false rfl ?_ | (refine GQ.g ?_; refine Q.gq ?_) | (refine GQ.s ?_; refine Q.st ?_) | (refine GQ.g ?_; refine Q.gd ?_) | refine Q.ct rfl ?_ | refine Q.cf rfl ?_)
  refine S.bs rfl rfl rfl rfl (by repeat (first | exact nz | (apply cz; exact rfl) | exact rfl)) (fun b2 => ?_)
  repeat (first | (refine GQ.y ?_; refine Q.y ?_) | refine N.tn ?_ | refine N.tr ?_ | refine N.te ?_ | refine N.bn ?_ | refine N.br ?_ | refine N.be ?_ | refine N.bx rfl ?_ | refine swp_seq ?_ | refine swp_region ?_ | refine opsS_nil ?_ | refine swp_ret ?_ | refine swp_skip ?_ | refine swp_exit ?_ | refine swp_block ?_ | refine swp_cond_true rfl ?_ | refine swp_cond_false rfl ?_ | (refine GQ.g ?_; refine Q.gq ?_) | (refine GQ.s ?_; refine Q.st ?_) | (refine GQ.g ?_; refine Q.gd ?_) | refine Q.ct rfl ?_ | refine Q.cf rfl ?_)
  refine S.cvm (t0 := 5) rfl rfl (fun M2 h2 => ?_)
  repeat (first | (refine GQ.y ?_; refine Q.y ?_) | refine N.tn ?_ | refine N.tr ?_ | refine N.te ?_ | refine N.bn ?_ | refine N.br ?_ | refine N.be ?_ | refine N.bx rfl ?_ | refine swp_seq ?_ | refine swp_region ?_ | refine opsS_nil ?_ | refine swp_ret ?_ | refine swp_skip ?_ | refine swp_exit ?_ | refine swp_block ?_ | refine swp_cond_true rfl ?_ | refine swp_cond_false rfl ?_ | (refine GQ.g ?_; refine Q.gq ?_) | (refine GQ.s ?_; refine Q.st ?_) | (refine GQ.g ?_; refine Q.gd ?_) | refine Q.ct rfl ?_ | refine Q.cf rfl ?_)
  refine S.bs rfl rfl rfl rfl (by repeat (first | exact nz | (apply cz; exact rfl) | exact rfl)) (fun b3 => ?_)
  repeat (first | (refine GQ.y ?_; refine Q.y ?_) | refine N.tn ?_ | refine N.tr ?_ | refine N.te ?_ | refine N.bn ?_ | refine N.br ?_ | refine N.be ?_ | refine N.bx rfl ?_ | refine swp_seq ?_ | refine swp_region ?_ | refine opsS_nil ?_ | refine swp_ret ?_ | refine swp_skip ?_ | refine swp_exit ?_ | refine swp_block ?_ | refine swp_cond_true rfl ?_ | refine swp_cond_false rfl ?_ | (refine GQ.g ?_; refine Q.gq ?_) | (refine GQ.s ?_; refine Q.st ?_) | (refine GQ.g ?_; refine Q.gd ?_) | refine Q.ct rfl ?_ | refine Q.cf rfl ?_)
  refine S.cq rfl (Post_eq b 3 [] (List.replicate 256 false) (some ⟨b3, 0, none⟩) 2 [⟨0, 1, some ⟨b1, 0, none⟩, 1, [97]⟩, ⟨1, 2, some ⟨b2, 0, none⟩, 1, [98]⟩] 2 [(0, 1, [97]), (1, 2, [98])] _ ?_ ?_ (Nat.le_of_ble_eq_true rfl) (Nat.le_of_ble_eq_true rfl) rfl rfl) ?_
  rotate_left 2
  · rintro _ _ ⟨rfl, rfl⟩
    repeat (first | (refine GQ.y ?_; refine Q.y ?_) | refine N.tn ?_ | refine N.tr ?_ | refine N.te ?_ | refine N.bn ?_ | refine N.br ?_ | refine N.be ?_ | refine N.bx rfl ?_ | refine swp_seq ?_ | refine swp_region ?_ | refine opsS_nil ?_ | refine swp_ret ?_ | refine swp_skip ?_ | refine swp_exit ?_ | refine swp_block ?_ | refine swp_cond_true rfl ?_ | refine swp_cond_false rfl ?_ | (refine GQ.g ?_; refine Q.gq ?_) | (refine GQ.s ?_; refine Q.st ?_) | (refine GQ.g ?_; refine Q.gd ?_) | refine Q.ct rfl ?_ | refine Q.cf rfl ?_)
    refine S.cq rfl (Take_eq b 3 [(0, 1, [97]), (1, 2, [98])] (List.replicate 256 false) 1 1 2 [98] [(0, 1, [97])] _ (netOK_of (by decide) (by decide) rep256 (by decide) (by decide)) rfl (by decide) rfl) ?_
    rintro _ _ ⟨a4, c4, rfl, rfl⟩
    repeat (first | (refine GQ.y ?_; refine Q.y ?_) | refine N.tn ?_ | refine N.tr ?_ | refine N.te ?_ | refine N.bn ?_ | refine N.br ?_ | refine N.be ?_ | refine N.bx rfl ?_ | refine swp_seq ?_ | refine swp_region ?_ | refine opsS_nil ?_ | refine swp_ret ?_ | refine swp_skip ?_ | refine swp_exit ?_ | refine swp_block ?_ | refine swp_cond_true rfl ?_ | refine swp_cond_false rfl ?_ | (refine GQ.g ?_; refine Q.gq ?_) | (refine GQ.s ?_; refine Q.st ?_) | (refine GQ.g ?_; refine Q.gd ?_) | refine Q.ct rfl ?_ | refine Q.cf rfl ?_)
    refine S.al (fun b4 => ?_)
    repeat (first | (refine GQ.y ?_; refine Q.y ?_) | refine N.tn ?_ | refine N.tr ?_ | refine N.te ?_ | refine N.bn ?_ | refine N.br ?_ | refine N.be ?_ | refine N.bx rfl ?_ | refine swp_seq ?_ | refine swp_region ?_ | refine opsS_nil ?_ | refine swp_ret ?_ | refine swp_skip ?_ | refine swp_exit ?_ | refine swp_block ?_ | refine swp_cond_true rfl ?_ | refine swp_cond_false rfl ?_ | (refine GQ.g ?_; refine Q.gq ?_) | (refine GQ.s ?_; refine Q.st ?_) | (refine GQ.g ?_; refine Q.gd ?_) | refine Q.ct rfl ?_ | refine Q.cf rfl ?_)
    refine S.cq rfl (Split_ok b 3 [(0, 1, [97])] (List.replicate 256 false) 1 0 true _ (netOK_of (by decide) (by decide) rep256 (by decide) (by decide)) (by decide) (by decide) (by decide)) ?_
    rintro _ _ ⟨rfl, rfl⟩
    repeat (first | (refine GQ.y ?_; refine Q.y ?_) | refine N.tn ?_ | refine N.tr ?_ | refine N.te ?_ | refine N.bn ?_ | refine N.br ?_ | refine N.be ?_ | refine N.bx rfl ?_ | refine swp_seq ?_ | refine swp_region ?_ | refine opsS_nil ?_ | refine swp_ret ?_ | refine swp_skip ?_ | refine swp_exit ?_ | refine swp_block ?_ | refine swp_cond_true rfl ?_ | refine swp_cond_false rfl ?_ | (refine GQ.g ?_; refine Q.gq ?_) | (refine GQ.s ?_; refine Q.st ?_) | (refine GQ.g ?_; refine Q.gd ?_) | refine Q.ct rfl ?_ | refine Q.cf rfl ?_)
    refine S.cq rfl (Take_state b 3 [(0, 1, [97])] (((List.replicate 256 false).set (1 * 16 + 0) true).set (0 * 16 + 1) true) 0 _ (netOK_of (by decide) (by decide) rep256s (by decide) (by decide)) (by decide) (by decide)) ?_
    rintro _ _ ⟨rfl, rfl⟩
    repeat (first | (refine GQ.y ?_; refine Q.y ?_) | refine N.tn ?_ | refine N.tr ?_ | refine N.te ?_ | refine N.bn ?_ | refine N.br ?_ | refine N.be ?_ | refine N.bx rfl ?_ | refine swp_seq ?_ | refine swp_region ?_ | refine opsS_nil ?_ | refine swp_ret ?_ | refine swp_skip ?_ | refine swp_exit ?_ | refine swp_block ?_ | refine swp_cond_true rfl ?_ | refine swp_cond_false rfl ?_ | (refine GQ.g ?_; refine Q.gq ?_) | (refine GQ.s ?_; refine Q.st ?_) | (refine GQ.g ?_; refine Q.gd ?_) | refine Q.ct rfl ?_ | refine Q.cf rfl ?_)
    refine S.al (fun b5 => ?_)
    repeat (first | (refine GQ.y ?_; refine Q.y ?_) | refine N.tn ?_ | refine N.tr ?_ | refine N.te ?_ | refine N.bn ?_ | refine N.br ?_ | refine N.be ?_ | refine N.bx rfl ?_ | refine swp_seq ?_ | refine swp_region ?_ | refine opsS_nil ?_ | refine swp_ret ?_ | refine swp_skip ?_ | refine swp_exit ?_ | refine swp_block ?_ | refine swp_cond_true rfl ?_ | refine swp_cond_false rfl ?_ | (refine GQ.g ?_; refine Q.gq ?_) | (refine GQ.s ?_; refine Q.st ?_) | (refine GQ.g ?_; refine Q.gd ?_) | refine Q.ct rfl ?_ | refine Q.cf rfl ?_)
    refine opsS_addr a4 fun ha => ?_
    refine S.y (by refine Y.b2s (bs := [98]) (by rfl) ?_; exact RdS.ofS (by rfl) ha) ?_
    repeat (first | (refine GQ.y ?_; refine Q.y ?_) | refine N.tn ?_ | refine N.tr ?_ | refine N.te ?_ | refine N.bn ?_ | refine N.br ?_ | refine N.be ?_ | refine N.bx rfl ?_ | refine swp_seq ?_ | refine swp_region ?_ | refine opsS_nil ?_ | refine swp_ret ?_ | refine swp_skip ?_ | refine swp_exit ?_ | refine swp_block ?_ | refine swp_cond_true rfl ?_ | refine swp_cond_false rfl ?_ | (refine GQ.g ?_; refine Q.gq ?_) | (refine GQ.s ?_; refine Q.st ?_) | (refine GQ.g ?_; refine Q.gd ?_) | refine Q.ct rfl ?_ | refine Q.cf rfl ?_)
    try refine S.y (Y.eqst (a := [98]) (b := [98]) rfl rfl) ?_
    repeat (first | (refine GQ.y ?_; refine Q.y ?_) | refine N.tn ?_ | refine N.tr ?_ | refine N.te ?_ | refine N.bn ?_ | refine N.br ?_ | refine N.be ?_ | refine N.bx rfl ?_ | refine swp_seq ?_ | refine swp_region ?_ | refine opsS_nil ?_ | refine swp_ret ?_ | refine swp_skip ?_ | refine swp_exit ?_ | refine swp_block ?_ | refine swp_cond_true rfl ?_ | refine swp_cond_false rfl ?_ | (refine GQ.g ?_; refine Q.gq ?_) | (refine GQ.s ?_; refine Q.st ?_) | (refine GQ.g ?_; refine Q.gd ?_) | refine Q.ct rfl ?_ | refine Q.cf rfl ?_)
    refine S.cn b rfl (Len_spec _ _ _ _ _) ?_
    rintro _ _ ⟨rfl, rfl⟩
    repeat (first | (refine GQ.y ?_; refine Q.y ?_) | refine N.tn ?_ | refine N.tr ?_ | refine N.te ?_ | refine N.bn ?_ | refine N.br ?_ | refine N.be ?_ | refine N.bx rfl ?_ | refine swp_seq ?_ | refine swp_region ?_ | refine opsS_nil ?_ | refine swp_ret ?_ | refine swp_skip ?_ | refine swp_exit ?_ | refine swp_block ?_ | refine swp_cond_true rfl ?_ | refine swp_cond_false rfl ?_ | (refine GQ.g ?_; refine Q.gq ?_) | (refine GQ.s ?_; refine Q.st ?_) | (refine GQ.g ?_; refine Q.gd ?_) | refine Q.ct rfl ?_ | refine Q.cf rfl ?_)
    refine N.r1 (RV.tmp rfl RV.nil) ?_ ⟨rfl, rfl⟩
    repeat (first | exact Ent.refl _ | exact Ent.nil | refine Ent.pick ?_ | refine Ent.nilS ?_ | refine Ent.nilM ?_ | refine Ent.drop ?_)
  · exact ⟨rfl, .inr ⟨b3, 0, rfl, RdC.row⟩⟩
  · intro w hw
    rcases List.mem_cons.1 hw with rfl | hw
    · exact ⟨h1.rd, Nat.le_of_ble_eq_true rfl⟩
    · obtain rfl := List.mem_singleton.1 hw
      exact ⟨h2.rd, Nat.le_of_ble_eq_true rfl⟩
end Go.Proofs.Ytdjglpmnfckimaa
