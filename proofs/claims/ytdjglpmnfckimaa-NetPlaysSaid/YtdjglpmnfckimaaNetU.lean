/- NetPlays, walked. No condition. -/
import Derived.Test.YtdjglpmnfckimaaNetT
set_option linter.unusedVariables false
set_option linter.unusedSimpArgs false
namespace Go.Proofs.Ytdjglpmnfckimaa
open Go Go.SX
attribute [local irreducible] swp opsS thenS blockS retS CallsS St Ent YieldS anyS drawS
/-- A call of a script. -/
structure OpV where
  doo : UInt8
  a : Option Addr
  c : Nat
  ls : List LV
  i : Int
  j : Int
  on : Bool
def OpV.cells (v : OpV) : List Value := [B v.doo, .slice v.a v.ls.length v.c, .int .i64 v.i, .int .i64 v.j, .bool v.on]
theorem OpV.cells_len (v : OpV) : v.cells.length = 5 := rfl
theorem swp_xH {n : Nat} {cd : Code} {Q : Post} {f : Env} {L : List HP} {p : Option Addr} {d : DD} (h0 : d = none → p = none → swp Try.prog n cd Q f L)
    (h1 : ∀ b s, d = some s → p = some ⟨b, 0, none⟩ → swp Try.prog n cd Q f (refH b s.1 s.2.1 s.2.2.2 :: L)) : swp Try.prog n cd Q f (xH p d :: L) := by
  cases d with
  | none => exact swp_pure fun e => h0 rfl e
  | some s => exact swp_ex fun b => swp_all (swp_pure fun e => h1 b s rfl e)
theorem swp_ref {n : Nat} {cd : Code} {Q : Post} {f : Env} {L : List HP} {b : Nat} {nodes : Int} {ls : List Let} {ss : List (Int × Int)}
    (h : ∀ (vs : List LV) (a : Option Addr) (c : Nat) (a2 : Option Addr) (c2 : Nat) (M : Nat → Option Obj) (t : Nat), vs.map LV.abs = ls → LSM M a vs → SlM M a2 ss.length 2 (ss.flatMap pairC) → vs.length ≤ c →
      swp Try.prog n cd Q f (pt b (cl [.int .i64 nodes, .slice a vs.length c, .slice a2 ss.length c2] t) :: roM M :: L)) : swp Try.prog n cd Q f (refH b nodes ls ss :: L) := by
  refine swp_ex fun vs => swp_ex fun a => swp_ex fun c => swp_ex fun a2 => swp_ex fun c2 => swp_ex fun M => swp_ex fun t => swp_all ?_
  exact swp_pure fun hh => h vs a c a2 c2 M t hh.1 hh.2.1 hh.2.2.1 hh.2.2.2
theorem swp_pick (A : HP) {P : Program} {n : Nat} {cd : Code} {Q : Post} {f : Env} {L L0 : List HP} [hp : Pick A L L0] (h : swp P n cd Q f (A :: L0)) : swp P n cd Q f L := swp_ent hp.ent h
theorem opsS_pick (A : HP) {P : Program} {n : Nat} {ops rest : List Oper} {Q : Post} {f : Env} {L L0 : List HP} [hp : Pick A L L0] (h : opsS P n ops rest Q f (A :: L0)) : opsS P n ops rest Q f L := opsS_ent hp.ent h
theorem tk_len {k : Nat} {d : DD} (h : okD k d) (i : Int) : (tkD d i).1.2.2.length ≤ 4102 := by
  cases d with
  | none => simp [tkD]
  | some s =>
    have hs := (h s rfl).1.2.2.2.1
    by_cases hi : 0 ≤ i ∧ i < s.2.1.length
    · cases ho : openB s.2.1 s.2.2.1 i with
      | false => rw [tk_state hi ho]; simp
      | true =>
        obtain ⟨j, rfl, hj⟩ := int_nat hi
        obtain ⟨l, hl⟩ := mem_get hj
        rw [tk_ok hl ho]
        exact (hs l (List.mem_of_getElem? hl)).2.2.2.2.2
    · rw [tk_arg hi]; simp
/-- A letter's body, owned. -/
def bodX (m : LV) : Option Addr × Nat × List Value := (m.a, m.c, m.body.map B)
structure PS where
  k : Nat
  a1 : Option Addr
  c1 : Nat
  ms : List LV
  a2 : Option Addr
  c2 : Nat
  rs : List LV
  M : Nat → Option Obj
noncomputable def code7 : Code := bodyC Try.f7.body
abbrev okOps_ (M : Nat → Option Obj) (ops : List OpV) : Prop := ∀ o ∈ ops, LSM M o.a o.ls ∧ o.ls.length ≤ 9223372036854775807 ∧ ∀ v ∈ o.ls, v.body.length ≤ v.c
abbrev post7 : Post := retS Try.prog Try.f7.ntmps Try.f7.results.toList (fun v L' => v = .bool true)
set_option maxHeartbeats 4000000 in
theorem NetPlays_tail (p px : Option Addr) (d : DD) (a : Option Addr) (c : Nat) (ops : List OpV) (M : Nat → Option Obj) (h : SlM M a ops.length 5 (ops.flatMap OpV.cells)) (hm : ops.length ≤ 9223372036854775807) (hb : okOps_ M ops) (hd : okD 0 d) :
    swp Try.prog Try.f7.ntmps (inB (tailC (headC (skipC 7 code7)))) (blockS 0 (thenS (fun f L => swp Try.prog Try.f7.ntmps (skipC 8 code7) post7 f L) post7))
      (updAll [(7, .pointer p), (10, .pointer px), (66, .slice a ops.length c), (67, .int .i64 ops.length), (68, .int .i64 0)]) (nH p d :: xH px d :: [roM M]) := by
  refine swp_loop (σ := Nat × DD) (fun s => [(7, .pointer p), (10, .pointer px), (66, .slice a ops.length c), (67, .int .i64 ops.length), (68, .int .i64 s.1)]) (fun s => nH p s.2 :: xH px s.2 :: [roM M])
    (fun s => s.1 ≤ ops.length ∧ okD (min s.1 50) s.2) (fun s => ops.length - s.1) (0, d) ⟨rfl, rfl, rfl, rfl, rfl, trivial⟩ (Ent.refl _) ⟨by omega, hd⟩ ?_
  rintro ⟨j, d⟩ ⟨hj, hok⟩
  dsimp only at hj hok ⊢
  repeat (first | (refine GQ.y ?_; refine Q.y ?_) | refine N.tn ?_ | refine N.tr ?_ | refine N.te ?_ | refine N.bn ?_ | refine N.br ?_ | refine N.be ?_ | refine N.bx rfl ?_ | refine swp_seq ?_ | refine swp_region ?_ | refine opsS_nil ?_ | refine swp_ret ?_ | refine swp_skip ?_ | refine swp_exit ?_ | refine swp_block ?_ | refine swp_cond_true rfl ?_ | refine swp_cond_false rfl ?_ | (refine GQ.g ?_; refine Q.gq ?_) | (refine GQ.s ?_; refine Q.st ?_))
  refine swp_cond rfl (fun hlt => ?_) (fun hge => ?_)
  · have hlt : j < ops.length := by simpa using hlt
    obtain ⟨o, ho⟩ := mem_get hlt
    obtain ⟨b2, o2, rfl, hr⟩ := h.cm OpV.cells_len ho rfl
    by_cases hj50 : j < 50
    · repeat (first | (refine GQ.y ?_; refine Q.y ?_) | refine N.tn ?_ | refine N.tr ?_ | refine N.te ?_ | refine N.bn ?_ | refine N.br ?_ | refine N.be ?_ | refine N.bx rfl ?_ | refine swp_seq ?_ | refine swp_region ?_ | refine opsS_nil ?_ | refine swp_ret ?_ | refine swp_skip ?_ | refine swp_exit ?_ | refine swp_block ?_ | refine swp_cond_true rfl ?_ | refine swp_cond_false rfl ?_ | (refine GQ.g ?_; refine Q.gq ?_) | (refine GQ.s ?_; refine Q.st ?_) | (refine GQ.g ?_; refine Q.gd ?_) | refine Q.ct rfl ?_ | refine Q.cf rfl ?_ | (refine GQ.a ?_; refine Q.al (fun b1 => ?_)))
      have hbl : o.doo.toNat < 256 := o.doo.toNat_lt
      refine S.y (Y.rem (b := 8) rfl rfl (by decide)) ?_
      have hrem : Int.tmod (o.doo.toNat : Int) 8 = ((o.doo.toNat % 8 : Nat) : Int) := Int.ofNat_tmod ..
      rw [hrem]
      have hmin : min (j + 1) 50 = min j 50 + 1 := by omega
      refine opsS_nil ?_
      refine N.tn ?_
      first | refine swp_seq ?_ | skip
      refine swp_cutT (σ := DD) (fun d' => [(7, .pointer p), (10, .pointer px), (12, .pointer (some ⟨b1, 0, none⟩)), (13, .bool true), (66, .slice (some ⟨b2, o2, none⟩) ops.length c), (67, .int .i64 ops.length), (68, .int .i64 j)])
        (fun d' => pt b1 (cl [B o.doo, .slice o.a o.ls.length o.c, .int .i64 o.i, .int .i64 o.j, .bool o.on] 55) :: nH p d' :: xH px d' :: [roM M]) (fun d' => okD (min (j + 1) 50) d') ?_ ?_
      · have hkeep : okD (min j 50) d := hok
        by_cases h3 : o.doo.toNat % 8 = 3 ∨ o.doo.toNat % 8 = 4
        · rcases h3 with h3 | h3
          · have hne : decide (((o.doo.toNat % 8 : Nat) : Int) = 4) = false := by simp; omega
            have hdd : (if false then d else tkS d o.i) = tkS d o.i := rfl
            repeat (first | (refine GQ.y ?_; refine Q.y ?_) | refine N.tn ?_ | refine N.tr ?_ | refine N.te ?_ | refine N.bn ?_ | refine N.br ?_ | refine N.be ?_ | refine N.bx rfl ?_ | refine swp_seq ?_ | refine swp_region ?_ | refine opsS_nil ?_ | refine swp_ret ?_ | refine swp_skip ?_ | refine swp_exit ?_ | refine swp_block ?_ | refine swp_cond_true rfl ?_ | refine swp_cond_false rfl ?_ | (refine GQ.g ?_; refine Q.gq ?_) | (refine GQ.s ?_; refine Q.st ?_) | (refine GQ.g ?_; refine Q.gd ?_) | refine Q.ct rfl ?_ | refine Q.cf rfl ?_ | (refine GQ.a ?_; refine Q.al (fun b1 => ?_)))
            refine S.y (Y.rem (b := 8) rfl rfl (by decide)) ?_
            rw [hrem]
            repeat (first | (refine GQ.y ?_; refine Q.y ?_) | refine N.tn ?_ | refine N.tr ?_ | refine N.te ?_ | refine N.bn ?_ | refine N.br ?_ | refine N.be ?_ | refine N.bx rfl ?_ | refine swp_seq ?_ | refine swp_region ?_ | refine opsS_nil ?_ | refine swp_ret ?_ | refine swp_skip ?_ | refine swp_exit ?_ | refine swp_block ?_ | refine swp_cond_true rfl ?_ | refine swp_cond_false rfl ?_ | (refine GQ.g ?_; refine Q.gq ?_) | (refine GQ.s ?_; refine Q.st ?_) | (refine GQ.g ?_; refine Q.gd ?_) | refine Q.ct rfl ?_ | refine Q.cf rfl ?_ | (refine GQ.a ?_; refine Q.al (fun b1 => ?_)))
            refine opsS_pick (nH p d) (S.cr rfl (nTake_spec p d o.i _ _ hok) ?_)
            rintro _ _ ⟨x, hx, rfl, rfl⟩
            have hxl : x.body.length ≤ 4102 := by have := tk_len hok o.i; rw [← hx] at this; exact this
            refine opsS_addr x.a fun hxa => ?_
            repeat (first | (refine GQ.y ?_; refine Q.y ?_) | refine N.tn ?_ | refine N.tr ?_ | refine N.te ?_ | refine N.bn ?_ | refine N.br ?_ | refine N.be ?_ | refine N.bx rfl ?_ | refine swp_seq ?_ | refine swp_region ?_ | refine opsS_nil ?_ | refine swp_ret ?_ | refine swp_skip ?_ | refine swp_exit ?_ | refine swp_block ?_ | refine swp_cond_true rfl ?_ | refine swp_cond_false rfl ?_ | (refine GQ.g ?_; refine Q.gq ?_) | (refine GQ.s ?_; refine Q.st ?_) | (refine GQ.g ?_; refine Q.gd ?_) | refine Q.ct rfl ?_ | refine Q.cf rfl ?_ | (refine GQ.a ?_; refine Q.al (fun b1 => ?_)))
            refine S.y (Y.rem (b := 8) rfl rfl (by decide)) ?_
            rw [hrem]
            repeat (first | (refine GQ.y ?_; refine Q.y ?_) | refine N.tn ?_ | refine N.tr ?_ | refine N.te ?_ | refine N.bn ?_ | refine N.br ?_ | refine N.be ?_ | refine N.bx rfl ?_ | refine swp_seq ?_ | refine swp_region ?_ | refine opsS_nil ?_ | refine swp_ret ?_ | refine swp_skip ?_ | refine swp_exit ?_ | refine swp_block ?_ | refine swp_cond_true rfl ?_ | refine swp_cond_false rfl ?_ | (refine GQ.g ?_; refine Q.gq ?_) | (refine GQ.s ?_; refine Q.st ?_) | (refine GQ.g ?_; refine Q.gd ?_) | refine Q.ct rfl ?_ | refine Q.cf rfl ?_ | (refine GQ.a ?_; refine Q.al (fun b1 => ?_)))
            rw [hne]
            refine opsS_pick (xH px d) (S.cr rfl (xTake_spec px d o.i false _ _ hok (by omega)) ?_)
            rintro _ _ ⟨y, M2, hy, rfl, hM2, rfl⟩
            rw [hdd]
            repeat (first | (refine GQ.y ?_; refine Q.y ?_) | refine N.tn ?_ | refine N.tr ?_ | refine N.te ?_ | refine N.bn ?_ | refine N.br ?_ | refine N.be ?_ | refine N.bx rfl ?_ | refine swp_seq ?_ | refine swp_region ?_ | refine opsS_nil ?_ | refine swp_ret ?_ | refine swp_skip ?_ | refine swp_exit ?_ | refine swp_block ?_ | refine swp_cond_true rfl ?_ | refine swp_cond_false rfl ?_ | (refine GQ.g ?_; refine Q.gq ?_) | (refine GQ.s ?_; refine Q.st ?_) | (refine GQ.g ?_; refine Q.gd ?_) | refine Q.ct rfl ?_ | refine Q.cf rfl ?_ | (refine GQ.a ?_; refine Q.al (fun b1 => ?_)))
            rename_i bO b14 b16 bA
            refine S.cr rfl (Same_spec (some ⟨bA, 0, none⟩) (some ⟨b1, 0, none⟩) 1 1 [x] [y] _ ⟨rfl, .inr ⟨_, 0, rfl, RdC.row⟩⟩ ⟨rfl, .inr ⟨_, 0, rfl, RdC.row⟩⟩ ?_ ?_ (Nat.le_of_ble_eq_true rfl)) ?_
            · intro v hv
              obtain rfl := List.mem_singleton.1 hv
              exact RdS.ofS (by simp) hxa
            · intro v hv
              obtain rfl := List.mem_singleton.1 hv
              exact hM2.rd
            rintro _ _ ⟨rfl, rfl⟩
            have hsm : SameL [x] [y] = true := by simp [SameL, hx, hy]
            rw [hsm]
            repeat (first | (refine GQ.y ?_; refine Q.y ?_) | refine N.tn ?_ | refine N.tr ?_ | refine N.te ?_ | refine N.bn ?_ | refine N.br ?_ | refine N.be ?_ | refine N.bx rfl ?_ | refine swp_seq ?_ | refine swp_region ?_ | refine opsS_nil ?_ | refine swp_ret ?_ | refine swp_skip ?_ | refine swp_exit ?_ | refine swp_block ?_ | refine swp_cond_true rfl ?_ | refine swp_cond_false rfl ?_ | (refine GQ.g ?_; refine Q.gq ?_) | (refine GQ.s ?_; refine Q.st ?_) | (refine GQ.g ?_; refine Q.gd ?_) | refine Q.ct rfl ?_ | refine Q.cf rfl ?_ | (refine GQ.a ?_; refine Q.al (fun b1 => ?_)))
            refine swp_loop (σ := Nat × List Value) (fun s => [(7, .pointer p), (10, .pointer px), (12, .pointer (some ⟨bO, 0, none⟩)), (13, .bool true), (14, .pointer (some ⟨b14, 0, none⟩)), (66, .slice (some ⟨b2, o2, none⟩) ops.length c), (67, .int .i64 ops.length), (68, .int .i64 j), (200, .int .i64 x.body.length), (201, .int .i64 s.1)])
              (fun s => slO 5 1 x.a x.body.length x.c s.2 :: pt b14 (cl [.int .i64 x.fr, .int .i64 x.to, .slice x.a x.body.length x.c] 33) :: pt bO (cl [B o.doo, .slice o.a o.ls.length o.c, .int .i64 o.i, .int .i64 o.j, .bool o.on] 55) :: nH p (tkS d o.i) :: xH px (tkS d o.i) :: [roM M])
              (fun s => s.1 ≤ x.body.length ∧ s.2.length = x.body.length ∧ ∀ v ∈ s.2, ∃ z, v = .int .u8 z) (fun s => x.body.length - s.1) (0, x.body.map B) ⟨rfl, rfl, rfl, congrArg some (congrArg Value.bool (by simp)), rfl, rfl, rfl, rfl, rfl, rfl, trivial⟩ (by (try dsimp only); repeat (first | exact Ent.refl _ | exact Ent.nil | refine Ent.pick ?_ | refine Ent.nilS ?_ | refine Ent.nilM ?_ | refine Ent.drop ?_)) ⟨by omega, by simp, ?_⟩ ?_
            · intro v hv
              obtain ⟨z, _, rfl⟩ := List.mem_map.1 hv
              exact ⟨_, rfl⟩
            rintro ⟨k, cs⟩ ⟨hk, hcs, hall⟩
            dsimp only at hk hcs hall ⊢
            repeat (first | (refine GQ.y ?_; refine Q.y ?_) | refine N.tn ?_ | refine N.tr ?_ | refine N.te ?_ | refine N.bn ?_ | refine N.br ?_ | refine N.be ?_ | refine N.bx rfl ?_ | refine swp_seq ?_ | refine swp_region ?_ | refine opsS_nil ?_ | refine swp_ret ?_ | refine swp_skip ?_ | refine swp_exit ?_ | refine swp_block ?_ | refine swp_cond_true rfl ?_ | refine swp_cond_false rfl ?_ | (refine GQ.g ?_; refine Q.gq ?_) | (refine GQ.s ?_; refine Q.st ?_))
            refine swp_cond rfl (fun hlt => ?_) (fun hge => ?_)
            · have hlt : k < x.body.length := by simpa using hlt
              obtain ⟨v, hv⟩ := mem_get (l := cs) (k := k) (by omega)
              obtain ⟨z, rfl⟩ := hall v (List.mem_of_getElem? hv)
              obtain ⟨bx, hbx⟩ := hxa.resolve_left (by omega)
              rw [hbx]
              repeat (first | (refine GQ.y ?_; refine Q.y ?_) | refine N.tn ?_ | refine N.tr ?_ | refine N.te ?_ | refine N.bn ?_ | refine N.br ?_ | refine N.be ?_ | refine N.bx rfl ?_ | refine swp_seq ?_ | refine swp_region ?_ | refine opsS_nil ?_ | refine swp_ret ?_ | refine swp_skip ?_ | refine swp_exit ?_ | refine swp_block ?_ | refine swp_cond_true rfl ?_ | refine swp_cond_false rfl ?_ | (refine GQ.g ?_; refine Q.gq ?_) | (refine GQ.s ?_; refine Q.st ?_) | (refine GQ.g ?_; refine Q.gd ?_) | refine Q.ct rfl ?_ | refine Q.cf rfl ?_ | (refine GQ.a ?_; refine Q.al (fun b1 => ?_)))
              refine S.y (Y.ldR (v := .int .u8 z) rfl (RdC.ofS.at (j := k * 1) (by rw [Nat.mul_one]; exact hv))) ?_
              refine S.y (Y.xor rfl rfl) ?_
              repeat (first | (refine GQ.y ?_; refine Q.y ?_) | refine N.tn ?_ | refine N.tr ?_ | refine N.te ?_ | refine N.bn ?_ | refine N.br ?_ | refine N.be ?_ | refine N.bx rfl ?_ | refine swp_seq ?_ | refine swp_region ?_ | refine opsS_nil ?_ | refine swp_ret ?_ | refine swp_skip ?_ | refine swp_exit ?_ | refine swp_block ?_ | refine swp_cond_true rfl ?_ | refine swp_cond_false rfl ?_ | (refine GQ.g ?_; refine Q.gq ?_) | (refine GQ.s ?_; refine Q.st ?_) | (refine GQ.g ?_; refine Q.gd ?_) | refine Q.ct rfl ?_ | refine Q.cf rfl ?_ | (refine GQ.a ?_; refine Q.al (fun b1 => ?_)))
              refine S.stO rfl rfl rfl (by omega) rfl ?_
              repeat (first | (refine GQ.y ?_; refine Q.y ?_) | refine N.tn ?_ | refine N.tr ?_ | refine N.te ?_ | refine N.bn ?_ | refine N.br ?_ | refine N.be ?_ | refine N.bx rfl ?_ | refine swp_seq ?_ | refine swp_region ?_ | refine opsS_nil ?_ | refine swp_ret ?_ | refine swp_skip ?_ | refine swp_exit ?_ | refine swp_block ?_ | refine swp_cond_true rfl ?_ | refine swp_cond_false rfl ?_ | (refine GQ.g ?_; refine Q.gq ?_) | (refine GQ.s ?_; refine Q.st ?_) | (refine GQ.g ?_; refine Q.gd ?_) | refine Q.ct rfl ?_ | refine Q.cf rfl ?_ | (refine GQ.a ?_; refine Q.al (fun b1 => ?_)))
              refine ⟨(k + 1, cs.set (0 + k * 1) (.int .u8 (IntKind.u8.wrap ((BitVec.ofInt IntKind.u8.bits z) ^^^ (BitVec.ofInt IntKind.u8.bits 1)).toNat))), ⟨rfl, rfl, rfl, rfl, rfl, rfl, rfl, rfl, rfl, congrArg some (congrArg (Value.int .i64) (by simp)), trivial⟩, ?_, ⟨by dsimp only; omega, by simp [hcs], ?_⟩, by dsimp only; omega⟩
              · (try dsimp only); repeat (first | exact Ent.refl _ | exact Ent.nil | refine Ent.pick ?_ | refine Ent.nilS ?_ | refine Ent.nilM ?_ | refine Ent.drop ?_)
              · intro v hv
                rcases List.mem_or_eq_of_mem_set hv with hv | rfl
                · exact hall v hv
                · exact ⟨_, rfl⟩
            · repeat (first | (refine GQ.y ?_; refine Q.y ?_) | refine N.tn ?_ | refine N.tr ?_ | refine N.te ?_ | refine N.bn ?_ | refine N.br ?_ | refine N.be ?_ | refine N.bx rfl ?_ | refine swp_seq ?_ | refine swp_region ?_ | refine opsS_nil ?_ | refine swp_ret ?_ | refine swp_skip ?_ | refine swp_exit ?_ | refine swp_block ?_ | refine swp_cond_true rfl ?_ | refine swp_cond_false rfl ?_ | (refine GQ.g ?_; refine Q.gq ?_) | (refine GQ.s ?_; refine Q.st ?_) | (refine GQ.g ?_; refine Q.gd ?_) | refine Q.ct rfl ?_ | refine Q.cf rfl ?_ | (refine GQ.a ?_; refine Q.al (fun b1 => ?_)))
              refine ⟨tkS d o.i, ⟨rfl, rfl, rfl, congrArg some (congrArg Value.bool (by simp)), rfl, rfl, rfl, trivial⟩, by (try dsimp only); repeat (first | exact Ent.refl _ | exact Ent.nil | refine Ent.pick ?_ | refine Ent.nilS ?_ | refine Ent.nilM ?_ | refine Ent.drop ?_), by rw [hmin]; exact (hok.tk o.i).up⟩
          · have hne : decide (((o.doo.toNat % 8 : Nat) : Int) = 4) = true := by simp; omega
            have hdd : (if true then d else tkS d o.i) = d := rfl
            repeat (first | (refine GQ.y ?_; refine Q.y ?_) | refine N.tn ?_ | refine N.tr ?_ | refine N.te ?_ | refine N.bn ?_ | refine N.br ?_ | refine N.be ?_ | refine N.bx rfl ?_ | refine swp_seq ?_ | refine swp_region ?_ | refine opsS_nil ?_ | refine swp_ret ?_ | refine swp_skip ?_ | refine swp_exit ?_ | refine swp_block ?_ | refine swp_cond_true rfl ?_ | refine swp_cond_false rfl ?_ | (refine GQ.g ?_; refine Q.gq ?_) | (refine GQ.s ?_; refine Q.st ?_) | (refine GQ.g ?_; refine Q.gd ?_) | refine Q.ct rfl ?_ | refine Q.cf rfl ?_ | (refine GQ.a ?_; refine Q.al (fun b1 => ?_)))
            refine S.y (Y.rem (b := 8) rfl rfl (by decide)) ?_
            rw [hrem]
            repeat (first | (refine GQ.y ?_; refine Q.y ?_) | refine N.tn ?_ | refine N.tr ?_ | refine N.te ?_ | refine N.bn ?_ | refine N.br ?_ | refine N.be ?_ | refine N.bx rfl ?_ | refine swp_seq ?_ | refine swp_region ?_ | refine opsS_nil ?_ | refine swp_ret ?_ | refine swp_skip ?_ | refine swp_exit ?_ | refine swp_block ?_ | refine swp_cond_true rfl ?_ | refine swp_cond_false rfl ?_ | (refine GQ.g ?_; refine Q.gq ?_) | (refine GQ.s ?_; refine Q.st ?_) | (refine GQ.g ?_; refine Q.gd ?_) | refine Q.ct rfl ?_ | refine Q.cf rfl ?_ | (refine GQ.a ?_; refine Q.al (fun b1 => ?_)))
            refine opsS_pick (nH p d) (S.cr rfl (nCopy_spec p d o.i _ _ hok) ?_)
            rintro _ _ ⟨x, hx, rfl, rfl⟩
            have hxl : x.body.length ≤ 4102 := by have := tk_len hok o.i; rw [← hx] at this; exact this
            refine opsS_addr x.a fun hxa => ?_
            repeat (first | (refine GQ.y ?_; refine Q.y ?_) | refine N.tn ?_ | refine N.tr ?_ | refine N.te ?_ | refine N.bn ?_ | refine N.br ?_ | refine N.be ?_ | refine N.bx rfl ?_ | refine swp_seq ?_ | refine swp_region ?_ | refine opsS_nil ?_ | refine swp_ret ?_ | refine swp_skip ?_ | refine swp_exit ?_ | refine swp_block ?_ | refine swp_cond_true rfl ?_ | refine swp_cond_false rfl ?_ | (refine GQ.g ?_; refine Q.gq ?_) | (refine GQ.s ?_; refine Q.st ?_) | (refine GQ.g ?_; refine Q.gd ?_) | refine Q.ct rfl ?_ | refine Q.cf rfl ?_ | (refine GQ.a ?_; refine Q.al (fun b1 => ?_)))
            refine S.y (Y.rem (b := 8) rfl rfl (by decide)) ?_
            rw [hrem]
            repeat (first | (refine GQ.y ?_; refine Q.y ?_) | refine N.tn ?_ | refine N.tr ?_ | refine N.te ?_ | refine N.bn ?_ | refine N.br ?_ | refine N.be ?_ | refine N.bx rfl ?_ | refine swp_seq ?_ | refine swp_region ?_ | refine opsS_nil ?_ | refine swp_ret ?_ | refine swp_skip ?_ | refine swp_exit ?_ | refine swp_block ?_ | refine swp_cond_true rfl ?_ | refine swp_cond_false rfl ?_ | (refine GQ.g ?_; refine Q.gq ?_) | (refine GQ.s ?_; refine Q.st ?_) | (refine GQ.g ?_; refine Q.gd ?_) | refine Q.ct rfl ?_ | refine Q.cf rfl ?_ | (refine GQ.a ?_; refine Q.al (fun b1 => ?_)))
            rw [hne]
            refine opsS_pick (xH px d) (S.cr rfl (xTake_spec px d o.i true _ _ hok (by omega)) ?_)
            rintro _ _ ⟨y, M2, hy, rfl, hM2, rfl⟩
            rw [hdd]
            repeat (first | (refine GQ.y ?_; refine Q.y ?_) | refine N.tn ?_ | refine N.tr ?_ | refine N.te ?_ | refine N.bn ?_ | refine N.br ?_ | refine N.be ?_ | refine N.bx rfl ?_ | refine swp_seq ?_ | refine swp_region ?_ | refine opsS_nil ?_ | refine swp_ret ?_ | refine swp_skip ?_ | refine swp_exit ?_ | refine swp_block ?_ | refine swp_cond_true rfl ?_ | refine swp_cond_false rfl ?_ | (refine GQ.g ?_; refine Q.gq ?_) | (refine GQ.s ?_; refine Q.st ?_) | (refine GQ.g ?_; refine Q.gd ?_) | refine Q.ct rfl ?_ | refine Q.cf rfl ?_ | (refine GQ.a ?_; refine Q.al (fun b1 => ?_)))
            rename_i bO b14 b16 bA
            refine S.cr rfl (Same_spec (some ⟨bA, 0, none⟩) (some ⟨b1, 0, none⟩) 1 1 [x] [y] _ ⟨rfl, .inr ⟨_, 0, rfl, RdC.row⟩⟩ ⟨rfl, .inr ⟨_, 0, rfl, RdC.row⟩⟩ ?_ ?_ (Nat.le_of_ble_eq_true rfl)) ?_
            · intro v hv
              obtain rfl := List.mem_singleton.1 hv
              exact RdS.ofS (by simp) hxa
            · intro v hv
              obtain rfl := List.mem_singleton.1 hv
              exact hM2.rd
            rintro _ _ ⟨rfl, rfl⟩
            have hsm : SameL [x] [y] = true := by simp [SameL, hx, hy]
            rw [hsm]
            repeat (first | (refine GQ.y ?_; refine Q.y ?_) | refine N.tn ?_ | refine N.tr ?_ | refine N.te ?_ | refine N.bn ?_ | refine N.br ?_ | refine N.be ?_ | refine N.bx rfl ?_ | refine swp_seq ?_ | refine swp_region ?_ | refine opsS_nil ?_ | refine swp_ret ?_ | refine swp_skip ?_ | refine swp_exit ?_ | refine swp_block ?_ | refine swp_cond_true rfl ?_ | refine swp_cond_false rfl ?_ | (refine GQ.g ?_; refine Q.gq ?_) | (refine GQ.s ?_; refine Q.st ?_) | (refine GQ.g ?_; refine Q.gd ?_) | refine Q.ct rfl ?_ | refine Q.cf rfl ?_ | (refine GQ.a ?_; refine Q.al (fun b1 => ?_)))
            refine swp_loop (σ := Nat × List Value) (fun s => [(7, .pointer p), (10, .pointer px), (12, .pointer (some ⟨bO, 0, none⟩)), (13, .bool true), (14, .pointer (some ⟨b14, 0, none⟩)), (66, .slice (some ⟨b2, o2, none⟩) ops.length c), (67, .int .i64 ops.length), (68, .int .i64 j), (200, .int .i64 x.body.length), (201, .int .i64 s.1)])
              (fun s => slO 5 1 x.a x.body.length x.c s.2 :: pt b14 (cl [.int .i64 x.fr, .int .i64 x.to, .slice x.a x.body.length x.c] 33) :: pt bO (cl [B o.doo, .slice o.a o.ls.length o.c, .int .i64 o.i, .int .i64 o.j, .bool o.on] 55) :: nH p (d) :: xH px (d) :: [roM M])
              (fun s => s.1 ≤ x.body.length ∧ s.2.length = x.body.length ∧ ∀ v ∈ s.2, ∃ z, v = .int .u8 z) (fun s => x.body.length - s.1) (0, x.body.map B) ⟨rfl, rfl, rfl, congrArg some (congrArg Value.bool (by simp)), rfl, rfl, rfl, rfl, rfl, rfl, trivial⟩ (by (try dsimp only); repeat (first | exact Ent.refl _ | exact Ent.nil | refine Ent.pick ?_ | refine Ent.nilS ?_ | refine Ent.nilM ?_ | refine Ent.drop ?_)) ⟨by omega, by simp, ?_⟩ ?_
            · intro v hv
              obtain ⟨z, _, rfl⟩ := List.mem_map.1 hv
              exact ⟨_, rfl⟩
            rintro ⟨k, cs⟩ ⟨hk, hcs, hall⟩
            dsimp only at hk hcs hall ⊢
            repeat (first | (refine GQ.y ?_; refine Q.y ?_) | refine N.tn ?_ | refine N.tr ?_ | refine N.te ?_ | refine N.bn ?_ | refine N.br ?_ | refine N.be ?_ | refine N.bx rfl ?_ | refine swp_seq ?_ | refine swp_region ?_ | refine opsS_nil ?_ | refine swp_ret ?_ | refine swp_skip ?_ | refine swp_exit ?_ | refine swp_block ?_ | refine swp_cond_true rfl ?_ | refine swp_cond_false rfl ?_ | (refine GQ.g ?_; refine Q.gq ?_) | (refine GQ.s ?_; refine Q.st ?_))
            refine swp_cond rfl (fun hlt => ?_) (fun hge => ?_)
            · have hlt : k < x.body.length := by simpa using hlt
              obtain ⟨v, hv⟩ := mem_get (l := cs) (k := k) (by omega)
              obtain ⟨z, rfl⟩ := hall v (List.mem_of_getElem? hv)
              obtain ⟨bx, hbx⟩ := hxa.resolve_left (by omega)
              rw [hbx]
              repeat (first | (refine GQ.y ?_; refine Q.y ?_) | refine N.tn ?_ | refine N.tr ?_ | refine N.te ?_ | refine N.bn ?_ | refine N.br ?_ | refine N.be ?_ | refine N.bx rfl ?_ | refine swp_seq ?_ | refine swp_region ?_ | refine opsS_nil ?_ | refine swp_ret ?_ | refine swp_skip ?_ | refine swp_exit ?_ | refine swp_block ?_ | refine swp_cond_true rfl ?_ | refine swp_cond_false rfl ?_ | (refine GQ.g ?_; refine Q.gq ?_) | (refine GQ.s ?_; refine Q.st ?_) | (refine GQ.g ?_; refine Q.gd ?_) | refine Q.ct rfl ?_ | refine Q.cf rfl ?_ | (refine GQ.a ?_; refine Q.al (fun b1 => ?_)))
              refine S.y (Y.ldR (v := .int .u8 z) rfl (RdC.ofS.at (j := k * 1) (by rw [Nat.mul_one]; exact hv))) ?_
              refine S.y (Y.xor rfl rfl) ?_
              repeat (first | (refine GQ.y ?_; refine Q.y ?_) | refine N.tn ?_ | refine N.tr ?_ | refine N.te ?_ | refine N.bn ?_ | refine N.br ?_ | refine N.be ?_ | refine N.bx rfl ?_ | refine swp_seq ?_ | refine swp_region ?_ | refine opsS_nil ?_ | refine swp_ret ?_ | refine swp_skip ?_ | refine swp_exit ?_ | refine swp_block ?_ | refine swp_cond_true rfl ?_ | refine swp_cond_false rfl ?_ | (refine GQ.g ?_; refine Q.gq ?_) | (refine GQ.s ?_; refine Q.st ?_) | (refine GQ.g ?_; refine Q.gd ?_) | refine Q.ct rfl ?_ | refine Q.cf rfl ?_ | (refine GQ.a ?_; refine Q.al (fun b1 => ?_)))
              refine S.stO rfl rfl rfl (by omega) rfl ?_
              repeat (first | (refine GQ.y ?_; refine Q.y ?_) | refine N.tn ?_ | refine N.tr ?_ | refine N.te ?_ | refine N.bn ?_ | refine N.br ?_ | refine N.be ?_ | refine N.bx rfl ?_ | refine swp_seq ?_ | refine swp_region ?_ | refine opsS_nil ?_ | refine swp_ret ?_ | refine swp_skip ?_ | refine swp_exit ?_ | refine swp_block ?_ | refine swp_cond_true rfl ?_ | refine swp_cond_false rfl ?_ | (refine GQ.g ?_; refine Q.gq ?_) | (refine GQ.s ?_; refine Q.st ?_) | (refine GQ.g ?_; refine Q.gd ?_) | refine Q.ct rfl ?_ | refine Q.cf rfl ?_ | (refine GQ.a ?_; refine Q.al (fun b1 => ?_)))
              refine ⟨(k + 1, cs.set (0 + k * 1) (.int .u8 (IntKind.u8.wrap ((BitVec.ofInt IntKind.u8.bits z) ^^^ (BitVec.ofInt IntKind.u8.bits 1)).toNat))), ⟨rfl, rfl, rfl, rfl, rfl, rfl, rfl, rfl, rfl, congrArg some (congrArg (Value.int .i64) (by simp)), trivial⟩, ?_, ⟨by dsimp only; omega, by simp [hcs], ?_⟩, by dsimp only; omega⟩
              · (try dsimp only); repeat (first | exact Ent.refl _ | exact Ent.nil | refine Ent.pick ?_ | refine Ent.nilS ?_ | refine Ent.nilM ?_ | refine Ent.drop ?_)
              · intro v hv
                rcases List.mem_or_eq_of_mem_set hv with hv | rfl
                · exact hall v hv
                · exact ⟨_, rfl⟩
            · repeat (first | (refine GQ.y ?_; refine Q.y ?_) | refine N.tn ?_ | refine N.tr ?_ | refine N.te ?_ | refine N.bn ?_ | refine N.br ?_ | refine N.be ?_ | refine N.bx rfl ?_ | refine swp_seq ?_ | refine swp_region ?_ | refine opsS_nil ?_ | refine swp_ret ?_ | refine swp_skip ?_ | refine swp_exit ?_ | refine swp_block ?_ | refine swp_cond_true rfl ?_ | refine swp_cond_false rfl ?_ | (refine GQ.g ?_; refine Q.gq ?_) | (refine GQ.s ?_; refine Q.st ?_) | (refine GQ.g ?_; refine Q.gd ?_) | refine Q.ct rfl ?_ | refine Q.cf rfl ?_ | (refine GQ.a ?_; refine Q.al (fun b1 => ?_)))
              refine ⟨d, ⟨rfl, rfl, rfl, congrArg some (congrArg Value.bool (by simp)), rfl, rfl, rfl, trivial⟩, by (try dsimp only); repeat (first | exact Ent.refl _ | exact Ent.nil | refine Ent.pick ?_ | refine Ent.nilS ?_ | refine Ent.nilM ?_ | refine Ent.drop ?_), by rw [hmin]; exact hok.up⟩
        · have h3' : ¬ o.doo.toNat % 8 = 3 := fun e => h3 (.inl e)
          have h4' : ¬ o.doo.toNat % 8 = 4 := fun e => h3 (.inr e)
          clear h3
          by_cases h5 : o.doo.toNat % 8 = 5
          · repeat (first | (refine GQ.y ?_; refine Q.y ?_) | refine N.tn ?_ | refine N.tr ?_ | refine N.te ?_ | refine N.bn ?_ | refine N.br ?_ | refine N.be ?_ | refine N.bx rfl ?_ | refine swp_seq ?_ | refine swp_region ?_ | refine opsS_nil ?_ | refine swp_ret ?_ | refine swp_skip ?_ | refine swp_exit ?_ | refine swp_block ?_ | refine swp_cond_true rfl ?_ | refine swp_cond_false rfl ?_ | (refine GQ.g ?_; refine Q.gq ?_) | (refine GQ.s ?_; refine Q.st ?_) | (refine GQ.g ?_; refine Q.gd ?_) | refine Q.ct rfl ?_ | refine Q.cf rfl ?_ | (refine GQ.a ?_; refine Q.al (fun b1 => ?_)))
            refine Q.dgo [true, false, false, false] [3, 7] [] [0, 1, 2, 4, 5, 6, 3, 7, 8, 9] ?_
            repeat (first | refine D.endA ?_ | refine Q.dy rfl rfl rfl ?_ | refine Q.dp rfl rfl rfl ?_ | refine D.end_ ?_ | refine Q.endH ?_ | (refine D.e rfl rfl rfl ?_; (first | refine S.gskip1 rfl ?_ | refine S.gskip rfl ?_ | refine S.y (Y.gskipU rfl) ?_); refine opsS_nil ?_; refine N.tn ?_) | refine Q.dT rfl rfl rfl ?_ | refine Q.dF rfl rfl rfl ?_)
            refine D.e rfl rfl rfl ?_
            refine opsS_pick (nH p d) (S.cr rfl (nDrop_spec p d o.i _ _ hok) ?_)
            rintro _ _ ⟨rfl, rfl⟩
            repeat (first | (refine GQ.y ?_; refine Q.y ?_) | refine N.tn ?_ | refine N.tr ?_ | refine N.te ?_ | refine N.bn ?_ | refine N.br ?_ | refine N.be ?_ | refine N.bx rfl ?_ | refine swp_seq ?_ | refine swp_region ?_ | refine opsS_nil ?_ | refine swp_ret ?_ | refine swp_skip ?_ | refine swp_exit ?_ | refine swp_block ?_ | refine swp_cond_true rfl ?_ | refine swp_cond_false rfl ?_ | (refine GQ.g ?_; refine Q.gq ?_) | (refine GQ.s ?_; refine Q.st ?_))
            refine D.e rfl rfl rfl ?_
            refine opsS_pick (xH px d) (S.cr rfl (xDrop_spec px d o.i _ _ hok (by omega)) ?_)
            rintro _ _ ⟨rfl, rfl⟩
            repeat (first | (refine GQ.y ?_; refine Q.y ?_) | refine N.tn ?_ | refine N.tr ?_ | refine N.te ?_ | refine N.bn ?_ | refine N.br ?_ | refine N.be ?_ | refine N.bx rfl ?_ | refine swp_seq ?_ | refine swp_region ?_ | refine opsS_nil ?_ | refine swp_ret ?_ | refine swp_skip ?_ | refine swp_exit ?_ | refine swp_block ?_ | refine swp_cond_true rfl ?_ | refine swp_cond_false rfl ?_ | (refine GQ.g ?_; refine Q.gq ?_) | (refine GQ.s ?_; refine Q.st ?_))
            repeat (first | refine D.endA ?_ | refine Q.dy rfl rfl rfl ?_ | refine Q.dp rfl rfl rfl ?_ | refine D.end_ ?_ | refine Q.endH ?_ | (refine D.e rfl rfl rfl ?_; (first | refine S.gskip1 rfl ?_ | refine S.gskip rfl ?_ | refine S.y (Y.gskipU rfl) ?_); refine opsS_nil ?_; refine N.tn ?_) | refine Q.dT rfl rfl rfl ?_ | refine Q.dF rfl rfl rfl ?_)
            repeat (first | (refine GQ.y ?_; refine Q.y ?_) | refine N.tn ?_ | refine N.tr ?_ | refine N.te ?_ | refine N.bn ?_ | refine N.br ?_ | refine N.be ?_ | refine N.bx rfl ?_ | refine swp_seq ?_ | refine swp_region ?_ | refine opsS_nil ?_ | refine swp_ret ?_ | refine swp_skip ?_ | refine swp_exit ?_ | refine swp_block ?_ | refine swp_cond_true rfl ?_ | refine swp_cond_false rfl ?_ | (refine GQ.g ?_; refine Q.gq ?_) | (refine GQ.s ?_; refine Q.st ?_) | (refine GQ.g ?_; refine Q.gd ?_) | refine Q.ct rfl ?_ | refine Q.cf rfl ?_ | (refine GQ.a ?_; refine Q.al (fun b1 => ?_)))
            refine ⟨dpD d o.i, ⟨rfl, rfl, rfl, congrArg some (congrArg Value.bool (by simp)), rfl, rfl, rfl, trivial⟩, by (try dsimp only); repeat (first | exact Ent.refl _ | exact Ent.nil | refine Ent.pick ?_ | refine Ent.nilS ?_ | refine Ent.nilM ?_ | refine Ent.drop ?_), by rw [hmin]; exact (hok.dp o.i).up⟩
          · by_cases h6 : o.doo.toNat % 8 = 6
            · repeat (first | (refine GQ.y ?_; refine Q.y ?_) | refine N.tn ?_ | refine N.tr ?_ | refine N.te ?_ | refine N.bn ?_ | refine N.br ?_ | refine N.be ?_ | refine N.bx rfl ?_ | refine swp_seq ?_ | refine swp_region ?_ | refine opsS_nil ?_ | refine swp_ret ?_ | refine swp_skip ?_ | refine swp_exit ?_ | refine swp_block ?_ | refine swp_cond_true rfl ?_ | refine swp_cond_false rfl ?_ | (refine GQ.g ?_; refine Q.gq ?_) | (refine GQ.s ?_; refine Q.st ?_) | (refine GQ.g ?_; refine Q.gd ?_) | refine Q.ct rfl ?_ | refine Q.cf rfl ?_ | (refine GQ.a ?_; refine Q.al (fun b1 => ?_)))
              refine Q.dgo [true, false, false, false] [7, 15] [] [0, 1, 2, 3, 4, 5, 6, 8, 9, 10, 11, 12, 13, 14, 7, 15, 16, 17] ?_
              repeat (first | refine D.endA ?_ | refine Q.dy rfl rfl rfl ?_ | refine Q.dp rfl rfl rfl ?_ | refine D.end_ ?_ | refine Q.endH ?_ | (refine D.e rfl rfl rfl ?_; (first | refine S.gskip1 rfl ?_ | refine S.gskip rfl ?_ | refine S.y (Y.gskipU rfl) ?_); refine opsS_nil ?_; refine N.tn ?_) | refine Q.dT rfl rfl rfl ?_ | refine Q.dF rfl rfl rfl ?_)
              refine D.e rfl rfl rfl ?_
              refine opsS_pick (nH p d) (S.cr rfl (nSplit_spec p d o.i o.j o.on _ _ hok) ?_)
              rintro _ _ ⟨rfl, rfl⟩
              repeat (first | (refine GQ.y ?_; refine Q.y ?_) | refine N.tn ?_ | refine N.tr ?_ | refine N.te ?_ | refine N.bn ?_ | refine N.br ?_ | refine N.be ?_ | refine N.bx rfl ?_ | refine swp_seq ?_ | refine swp_region ?_ | refine opsS_nil ?_ | refine swp_ret ?_ | refine swp_skip ?_ | refine swp_exit ?_ | refine swp_block ?_ | refine swp_cond_true rfl ?_ | refine swp_cond_false rfl ?_ | (refine GQ.g ?_; refine Q.gq ?_) | (refine GQ.s ?_; refine Q.st ?_))
              refine D.e rfl rfl rfl ?_
              refine opsS_pick (xH px d) (S.cr rfl (xSplit_spec px d o.i o.j o.on _ _ hok (by omega)) ?_)
              rintro _ _ ⟨rfl, rfl⟩
              repeat (first | (refine GQ.y ?_; refine Q.y ?_) | refine N.tn ?_ | refine N.tr ?_ | refine N.te ?_ | refine N.bn ?_ | refine N.br ?_ | refine N.be ?_ | refine N.bx rfl ?_ | refine swp_seq ?_ | refine swp_region ?_ | refine opsS_nil ?_ | refine swp_ret ?_ | refine swp_skip ?_ | refine swp_exit ?_ | refine swp_block ?_ | refine swp_cond_true rfl ?_ | refine swp_cond_false rfl ?_ | (refine GQ.g ?_; refine Q.gq ?_) | (refine GQ.s ?_; refine Q.st ?_))
              repeat (first | refine D.endA ?_ | refine Q.dy rfl rfl rfl ?_ | refine Q.dp rfl rfl rfl ?_ | refine D.end_ ?_ | refine Q.endH ?_ | (refine D.e rfl rfl rfl ?_; (first | refine S.gskip1 rfl ?_ | refine S.gskip rfl ?_ | refine S.y (Y.gskipU rfl) ?_); refine opsS_nil ?_; refine N.tn ?_) | refine Q.dT rfl rfl rfl ?_ | refine Q.dF rfl rfl rfl ?_)
              repeat (first | (refine GQ.y ?_; refine Q.y ?_) | refine N.tn ?_ | refine N.tr ?_ | refine N.te ?_ | refine N.bn ?_ | refine N.br ?_ | refine N.be ?_ | refine N.bx rfl ?_ | refine swp_seq ?_ | refine swp_region ?_ | refine opsS_nil ?_ | refine swp_ret ?_ | refine swp_skip ?_ | refine swp_exit ?_ | refine swp_block ?_ | refine swp_cond_true rfl ?_ | refine swp_cond_false rfl ?_ | (refine GQ.g ?_; refine Q.gq ?_) | (refine GQ.s ?_; refine Q.st ?_) | (refine GQ.g ?_; refine Q.gd ?_) | refine Q.ct rfl ?_ | refine Q.cf rfl ?_ | (refine GQ.a ?_; refine Q.al (fun b1 => ?_)))
              refine ⟨spD d o.i o.j o.on, ⟨rfl, rfl, rfl, congrArg some (congrArg Value.bool (by simp)), rfl, rfl, rfl, trivial⟩, by (try dsimp only); repeat (first | exact Ent.refl _ | exact Ent.nil | refine Ent.pick ?_ | refine Ent.nilS ?_ | refine Ent.nilM ?_ | refine Ent.drop ?_), by rw [hmin]; exact hok.sp o.i o.j o.on⟩
            · by_cases h7 : o.doo.toNat % 8 = 7
              · repeat (first | (refine GQ.y ?_; refine Q.y ?_) | refine N.tn ?_ | refine N.tr ?_ | refine N.te ?_ | refine N.bn ?_ | refine N.br ?_ | refine N.be ?_ | refine N.bx rfl ?_ | refine swp_seq ?_ | refine swp_region ?_ | refine opsS_nil ?_ | refine swp_ret ?_ | refine swp_skip ?_ | refine swp_exit ?_ | refine swp_block ?_ | refine swp_cond_true rfl ?_ | refine swp_cond_false rfl ?_ | (refine GQ.g ?_; refine Q.gq ?_) | (refine GQ.s ?_; refine Q.st ?_) | (refine GQ.g ?_; refine Q.gd ?_) | refine Q.ct rfl ?_ | refine Q.cf rfl ?_ | (refine GQ.a ?_; refine Q.al (fun b1 => ?_)))
                refine opsS_pick (nH p d) (S.cr rfl (nHeal_spec p d _ _ hok) ?_)
                rintro _ _ rfl
                repeat (first | (refine GQ.y ?_; refine Q.y ?_) | refine N.tn ?_ | refine N.tr ?_ | refine N.te ?_ | refine N.bn ?_ | refine N.br ?_ | refine N.be ?_ | refine N.bx rfl ?_ | refine swp_seq ?_ | refine swp_region ?_ | refine opsS_nil ?_ | refine swp_ret ?_ | refine swp_skip ?_ | refine swp_exit ?_ | refine swp_block ?_ | refine swp_cond_true rfl ?_ | refine swp_cond_false rfl ?_ | (refine GQ.g ?_; refine Q.gq ?_) | (refine GQ.s ?_; refine Q.st ?_) | (refine GQ.g ?_; refine Q.gd ?_) | refine Q.ct rfl ?_ | refine Q.cf rfl ?_ | (refine GQ.a ?_; refine Q.al (fun b1 => ?_)))
                refine swp_pick (xH px d) (swp_xH (fun e0 e => ?_) (fun bx s e0 e => ?_))
                · subst e0 e
                  repeat (first | (refine GQ.y ?_; refine Q.y ?_) | refine N.tn ?_ | refine N.tr ?_ | refine N.te ?_ | refine N.bn ?_ | refine N.br ?_ | refine N.be ?_ | refine N.bx rfl ?_ | refine swp_seq ?_ | refine swp_region ?_ | refine opsS_nil ?_ | refine swp_ret ?_ | refine swp_skip ?_ | refine swp_exit ?_ | refine swp_block ?_ | refine swp_cond_true rfl ?_ | refine swp_cond_false rfl ?_ | (refine GQ.g ?_; refine Q.gq ?_) | (refine GQ.s ?_; refine Q.st ?_) | (refine GQ.g ?_; refine Q.gd ?_) | refine Q.ct rfl ?_ | refine Q.cf rfl ?_ | (refine GQ.a ?_; refine Q.al (fun b1 => ?_)))
                  refine ⟨none, ⟨rfl, rfl, rfl, rfl, rfl, rfl, rfl, trivial⟩, ?_, by rw [hmin]; exact hok.up⟩
                  refine Ent.trans (xH_none rfl) ?_
                  rw [show hlD none = none from rfl]
                  (try dsimp only); repeat (first | exact Ent.refl _ | exact Ent.nil | refine Ent.pick ?_ | refine Ent.nilS ?_ | refine Ent.nilM ?_ | refine Ent.drop ?_)
                · subst e0 e
                  refine swp_ref fun vs a' c' a2 c2 M1 t hvs hM hSM hcap => ?_
                  repeat (first | (refine GQ.y ?_; refine Q.y ?_) | refine N.tn ?_ | refine N.tr ?_ | refine N.te ?_ | refine N.bn ?_ | refine N.br ?_ | refine N.be ?_ | refine N.bx rfl ?_ | refine swp_seq ?_ | refine swp_region ?_ | refine opsS_nil ?_ | refine swp_ret ?_ | refine swp_skip ?_ | refine swp_exit ?_ | refine swp_block ?_ | refine swp_cond_true rfl ?_ | refine swp_cond_false rfl ?_ | (refine GQ.g ?_; refine Q.gq ?_) | (refine GQ.s ?_; refine Q.st ?_) | (refine GQ.g ?_; refine Q.gd ?_) | refine Q.ct rfl ?_ | refine Q.cf rfl ?_ | (refine GQ.a ?_; refine Q.al (fun b1 => ?_)))
                  refine ⟨hlD (some s), ⟨rfl, rfl, rfl, rfl, rfl, rfl, rfl, trivial⟩, ?_, by rw [hmin]; exact hok.hl.up⟩
                  refine Ent.trans (Ent.trans (ref_shut (ss := []) (c := c') (a2 := none) (c2 := 0) (t := t) vs hvs hM SlM.nil hcap rfl rfl) (xH_some (s := (s.1, s.2.1, List.replicate 256 false, [])))) ?_
                  rw [show hlD (some s) = some (s.1, s.2.1, List.replicate 256 false, []) from rfl]
                  (try dsimp only); repeat (first | exact Ent.refl _ | exact Ent.nil | refine Ent.pick ?_ | refine Ent.nilS ?_ | refine Ent.nilM ?_ | refine Ent.drop ?_)
              · repeat (first | (refine GQ.y ?_; refine Q.y ?_) | refine N.tn ?_ | refine N.tr ?_ | refine N.te ?_ | refine N.bn ?_ | refine N.br ?_ | refine N.be ?_ | refine N.bx rfl ?_ | refine swp_seq ?_ | refine swp_region ?_ | refine opsS_nil ?_ | refine swp_ret ?_ | refine swp_skip ?_ | refine swp_exit ?_ | refine swp_block ?_ | refine swp_cond_true rfl ?_ | refine swp_cond_false rfl ?_ | (refine GQ.g ?_; refine Q.gq ?_) | (refine GQ.s ?_; refine Q.st ?_) | (refine GQ.g ?_; refine Q.gd ?_) | refine Q.ct rfl ?_ | refine Q.cf rfl ?_ | (refine GQ.a ?_; refine Q.al (fun b1 => ?_)))
                obtain ⟨hoM, hol, hoc⟩ := hb o (List.mem_of_getElem? ho)
                refine swp_loop (σ := PS) (fun s => [(7, .pointer p), (10, .pointer px), (12, .pointer (some ⟨b1, 0, none⟩)), (66, .slice (some ⟨b2, o2, none⟩) ops.length c), (67, .int .i64 ops.length), (68, .int .i64 j), (79, .slice o.a o.ls.length o.c), (80, .int .i64 o.ls.length), (19, .slice s.a1 s.ms.length s.c1), (20, .slice s.a2 s.rs.length s.c2), (81, .int .i64 s.k)])
                  (fun s => slO 33 3 s.a1 s.ms.length s.c1 (s.ms.flatMap LV.cells) :: slO 31 3 s.a2 s.rs.length s.c2 (s.rs.flatMap LV.cells) :: bodV 5 (s.ms.map bodX) :: roM s.M :: pt b1 (cl [B o.doo, .slice o.a o.ls.length o.c, .int .i64 o.i, .int .i64 o.j, .bool o.on] 55) :: nH p d :: [xH px d])
                  (fun s => s.k ≤ o.ls.length ∧ leM M s.M ∧ s.ms.length = min s.k 4 ∧ s.rs.map LV.abs = s.ms.map LV.abs ∧ (∀ v ∈ s.rs, SlM s.M v.a v.body.length 1 (v.body.map B)) ∧ ∀ m ∈ s.ms, m.body.length ≤ 4200 ∧ (m.body.length = 0 ∨ ∃ b, m.a = some ⟨b, 0, none⟩)) (fun s => o.ls.length - s.k) ⟨0, none, 0, [], none, 0, [], M⟩ ⟨rfl, rfl, rfl, rfl, rfl, rfl, rfl, rfl, rfl, rfl, rfl, trivial⟩ ?_ ⟨by dsimp only; omega, leM.refl _, by simp, rfl, by simp, by simp⟩ ?_
                · dsimp only
                  refine Ent.trans (Ent.trans (Ent.trans ?_ bodV_nil) slO_nil) slO_nil
                  repeat (first | exact Ent.refl _ | exact Ent.nil | refine Ent.pick ?_ | refine Ent.nilS ?_ | refine Ent.nilM ?_ | refine Ent.drop ?_)
                rintro ⟨k, a19, c19, ms, a20, c20, rs, M1⟩ ⟨hk, hle, hml, habs, hrs, hms⟩
                dsimp only at hk hle hml habs hrs hms ⊢
                have hrl : rs.length = ms.length := by have := congrArg List.length habs; simpa using this
                repeat (first | (refine GQ.y ?_; refine Q.y ?_) | refine N.tn ?_ | refine N.tr ?_ | refine N.te ?_ | refine N.bn ?_ | refine N.br ?_ | refine N.be ?_ | refine N.bx rfl ?_ | refine swp_seq ?_ | refine swp_region ?_ | refine opsS_nil ?_ | refine swp_ret ?_ | refine swp_skip ?_ | refine swp_exit ?_ | refine swp_block ?_ | refine swp_cond_true rfl ?_ | refine swp_cond_false rfl ?_ | (refine GQ.g ?_; refine Q.gq ?_) | (refine GQ.s ?_; refine Q.st ?_))
                refine swp_cond rfl (fun hlt => ?_) (fun hge => ?_)
                · have hlt : k < o.ls.length := by simpa using hlt
                  obtain ⟨v, hv⟩ := mem_get hlt
                  obtain ⟨b4, o4, hoa, hrv⟩ := (hoM.2.mono hle).cm LV.cells_len hv rfl
                  rw [hoa]
                  have hvb := (hoM.1 v (List.mem_of_getElem? hv)).mono hle
                  have hvc := hoc v (List.mem_of_getElem? hv)
                  by_cases hk4 : k < 4
                  · repeat (first | (refine GQ.y ?_; refine Q.y ?_) | refine N.tn ?_ | refine N.tr ?_ | refine N.te ?_ | refine N.bn ?_ | refine N.br ?_ | refine N.be ?_ | refine N.bx rfl ?_ | refine swp_seq ?_ | refine swp_region ?_ | refine opsS_nil ?_ | refine swp_ret ?_ | refine swp_skip ?_ | refine swp_exit ?_ | refine swp_block ?_ | refine swp_cond_true rfl ?_ | refine swp_cond_false rfl ?_ | (refine GQ.g ?_; refine Q.gq ?_) | (refine GQ.s ?_; refine Q.st ?_) | (refine GQ.g ?_; refine Q.gd ?_) | refine Q.ct rfl ?_ | refine Q.cf rfl ?_ | (refine GQ.a ?_; refine Q.al (fun b1 => ?_)))
                    refine S.cr rfl (Cut_spec v.a v.c v.body 4200 _ hvb.rd hvc (by omega)) ?_
                    rintro _ _ ⟨a', c', rfl, rfl⟩
                    refine opsS_addr a' fun ha' => ?_
                    have hb2 : (v.body.take 4200).length ≤ 4200 := by rw [List.length_take]; omega
                    repeat (first | (refine GQ.y ?_; refine Q.y ?_) | refine N.tn ?_ | refine N.tr ?_ | refine N.te ?_ | refine N.bn ?_ | refine N.br ?_ | refine N.be ?_ | refine N.bx rfl ?_ | refine swp_seq ?_ | refine swp_region ?_ | refine opsS_nil ?_ | refine swp_ret ?_ | refine swp_skip ?_ | refine swp_exit ?_ | refine swp_block ?_ | refine swp_cond_true rfl ?_ | refine swp_cond_false rfl ?_ | (refine GQ.g ?_; refine Q.gq ?_) | (refine GQ.s ?_; refine Q.st ?_) | (refine GQ.g ?_; refine Q.gd ?_) | refine Q.ct rfl ?_ | refine Q.cf rfl ?_ | (refine GQ.a ?_; refine Q.al (fun b1 => ?_)))
                    refine Q.dgo [false, true, false, false, false, false, false, false, false] [7, 8, 15, 17, 18] [] [0, 1, 2, 3, 4, 5, 6, 9, 10, 11, 12, 13, 14, 7, 8, 15, 16, 17, 18, 19, 20] ?_
                    repeat (first | refine D.endA ?_ | refine Q.dy rfl rfl rfl ?_ | refine Q.dp rfl rfl rfl ?_ | refine D.end_ ?_ | refine Q.endH ?_ | (refine D.e rfl rfl rfl ?_; (first | refine S.gskip1 rfl ?_ | refine S.gskip rfl ?_ | refine S.y (Y.gskipU rfl) ?_); refine opsS_nil ?_; refine N.tn ?_) | refine Q.dT rfl rfl rfl ?_ | refine Q.dF rfl rfl rfl ?_)
                    refine D.e rfl rfl rfl ?_
                    refine S.bs rfl rfl rfl rfl (by repeat (first | exact nz | (apply cz; exact rfl) | exact rfl)) (fun b7 => ?_)
                    repeat (first | (refine GQ.y ?_; refine Q.y ?_) | refine N.tn ?_ | refine N.tr ?_ | refine N.te ?_ | refine N.bn ?_ | refine N.br ?_ | refine N.be ?_ | refine N.bx rfl ?_ | refine swp_seq ?_ | refine swp_region ?_ | refine opsS_nil ?_ | refine swp_ret ?_ | refine swp_skip ?_ | refine swp_exit ?_ | refine swp_block ?_ | refine swp_cond_true rfl ?_ | refine swp_cond_false rfl ?_ | (refine GQ.g ?_; refine Q.gq ?_) | (refine GQ.s ?_; refine Q.st ?_))
                    refine D.e rfl rfl rfl ?_
                    refine S.app rfl rfl (SrcS.sl RdC.row (by rfl) (by rfl)) (by rfl) (by omega) (by omega) (fun a5 c5 => ?_)
                    repeat (first | (refine GQ.y ?_; refine Q.y ?_) | refine N.tn ?_ | refine N.tr ?_ | refine N.te ?_ | refine N.bn ?_ | refine N.br ?_ | refine N.be ?_ | refine N.bx rfl ?_ | refine swp_seq ?_ | refine swp_region ?_ | refine opsS_nil ?_ | refine swp_ret ?_ | refine swp_skip ?_ | refine swp_exit ?_ | refine swp_block ?_ | refine swp_cond_true rfl ?_ | refine swp_cond_false rfl ?_ | (refine GQ.g ?_; refine Q.gq ?_) | (refine GQ.s ?_; refine Q.st ?_))
                    refine D.e rfl rfl rfl ?_
                    refine S.cr rfl (RCopy_spec a' _ c' (v.body.take 4200) _ (RdS.ofS (by simp) ha') (by omega)) ?_
                    rintro _ _ ⟨a4, c4, rfl, rfl⟩
                    refine opsS_abs a4 fun M2 hle2 hsl => ?_
                    repeat (first | (refine GQ.y ?_; refine Q.y ?_) | refine N.tn ?_ | refine N.tr ?_ | refine N.te ?_ | refine N.bn ?_ | refine N.br ?_ | refine N.be ?_ | refine N.bx rfl ?_ | refine swp_seq ?_ | refine swp_region ?_ | refine opsS_nil ?_ | refine swp_ret ?_ | refine swp_skip ?_ | refine swp_exit ?_ | refine swp_block ?_ | refine swp_cond_true rfl ?_ | refine swp_cond_false rfl ?_ | (refine GQ.g ?_; refine Q.gq ?_) | (refine GQ.s ?_; refine Q.st ?_))
                    repeat (first | refine D.endA ?_ | refine Q.dy rfl rfl rfl ?_ | refine Q.dp rfl rfl rfl ?_ | refine D.end_ ?_ | refine Q.endH ?_ | (refine D.e rfl rfl rfl ?_; (first | refine S.gskip1 rfl ?_ | refine S.gskip rfl ?_ | refine S.y (Y.gskipU rfl) ?_); refine opsS_nil ?_; refine N.tn ?_) | refine Q.dT rfl rfl rfl ?_ | refine Q.dF rfl rfl rfl ?_)
                    refine D.e rfl rfl rfl ?_
                    refine S.bs rfl rfl rfl rfl (by repeat (first | exact nz | (apply cz; exact rfl) | exact rfl)) (fun b8 => ?_)
                    repeat (first | (refine GQ.y ?_; refine Q.y ?_) | refine N.tn ?_ | refine N.tr ?_ | refine N.te ?_ | refine N.bn ?_ | refine N.br ?_ | refine N.be ?_ | refine N.bx rfl ?_ | refine swp_seq ?_ | refine swp_region ?_ | refine opsS_nil ?_ | refine swp_ret ?_ | refine swp_skip ?_ | refine swp_exit ?_ | refine swp_block ?_ | refine swp_cond_true rfl ?_ | refine swp_cond_false rfl ?_ | (refine GQ.g ?_; refine Q.gq ?_) | (refine GQ.s ?_; refine Q.st ?_))
                    refine D.e rfl rfl rfl ?_
                    refine S.app rfl rfl (SrcS.sl RdC.row (by rfl) (by rfl)) (by rfl) (by omega) (by omega) (fun a6 c6 => ?_)
                    repeat (first | (refine GQ.y ?_; refine Q.y ?_) | refine N.tn ?_ | refine N.tr ?_ | refine N.te ?_ | refine N.bn ?_ | refine N.br ?_ | refine N.be ?_ | refine N.bx rfl ?_ | refine swp_seq ?_ | refine swp_region ?_ | refine opsS_nil ?_ | refine swp_ret ?_ | refine swp_skip ?_ | refine swp_exit ?_ | refine swp_block ?_ | refine swp_cond_true rfl ?_ | refine swp_cond_false rfl ?_ | (refine GQ.g ?_; refine Q.gq ?_) | (refine GQ.s ?_; refine Q.st ?_))
                    repeat (first | refine D.endA ?_ | refine Q.dy rfl rfl rfl ?_ | refine Q.dp rfl rfl rfl ?_ | refine D.end_ ?_ | refine Q.endH ?_ | (refine D.e rfl rfl rfl ?_; (first | refine S.gskip1 rfl ?_ | refine S.gskip rfl ?_ | refine S.y (Y.gskipU rfl) ?_); refine opsS_nil ?_; refine N.tn ?_) | refine Q.dT rfl rfl rfl ?_ | refine Q.dF rfl rfl rfl ?_)
                    repeat (first | (refine GQ.y ?_; refine Q.y ?_) | refine N.tn ?_ | refine N.tr ?_ | refine N.te ?_ | refine N.bn ?_ | refine N.br ?_ | refine N.be ?_ | refine N.bx rfl ?_ | refine swp_seq ?_ | refine swp_region ?_ | refine opsS_nil ?_ | refine swp_ret ?_ | refine swp_skip ?_ | refine swp_exit ?_ | refine swp_block ?_ | refine swp_cond_true rfl ?_ | refine swp_cond_false rfl ?_ | (refine GQ.g ?_; refine Q.gq ?_) | (refine GQ.s ?_; refine Q.st ?_) | (refine GQ.g ?_; refine Q.gd ?_) | refine Q.ct rfl ?_ | refine Q.cf rfl ?_ | (refine GQ.a ?_; refine Q.al (fun b1 => ?_)))
                    refine ⟨⟨k + 1, a5, c5, ms ++ [⟨v.fr, v.to, a', c', v.body.take 4200⟩], a6, c6, rs ++ [⟨v.fr, v.to, a4, c4, v.body.take 4200⟩], M2⟩, ⟨rfl, rfl, rfl, rfl, rfl, rfl, rfl, rfl, congrArg some (by simp), congrArg some (by simp), congrArg some (congrArg (Value.int .i64) (by simp)), trivial⟩, ?_, ⟨by dsimp only; omega, hle.trans hle2, ?_, ?_, ?_, ?_⟩, by dsimp only; omega⟩
                    · simp only [len_snoc, flat_snoc, LV.cells, List.map_append, List.map_cons, List.map_nil, bodX]
                      refine Ent.trans ?_ (Ent.cons (Ent.cons (bodV_snoc (m := (v.body.take 4200).length) (by simp))))
                      repeat (first | exact Ent.refl _ | exact Ent.nil | refine Ent.pick ?_ | refine Ent.nilS ?_ | refine Ent.nilM ?_ | refine Ent.drop ?_)
                    · simp only [len_snoc]; omega
                    · simp only [List.map_append, habs]; rfl
                    · intro x hx
                      rcases List.mem_append.1 hx with hx | hx
                      · exact (hrs x hx).mono hle2
                      · obtain rfl := List.mem_singleton.1 hx; exact hsl
                    · intro x hx
                      rcases List.mem_append.1 hx with hx | hx
                      · exact hms x hx
                      · obtain rfl := List.mem_singleton.1 hx; exact ⟨hb2, ha'⟩
                  · repeat (first | (refine GQ.y ?_; refine Q.y ?_) | refine N.tn ?_ | refine N.tr ?_ | refine N.te ?_ | refine N.bn ?_ | refine N.br ?_ | refine N.be ?_ | refine N.bx rfl ?_ | refine swp_seq ?_ | refine swp_region ?_ | refine opsS_nil ?_ | refine swp_ret ?_ | refine swp_skip ?_ | refine swp_exit ?_ | refine swp_block ?_ | refine swp_cond_true rfl ?_ | refine swp_cond_false rfl ?_ | (refine GQ.g ?_; refine Q.gq ?_) | (refine GQ.s ?_; refine Q.st ?_) | (refine GQ.g ?_; refine Q.gd ?_) | refine Q.ct rfl ?_ | refine Q.cf rfl ?_ | (refine GQ.a ?_; refine Q.al (fun b1 => ?_)))
                    refine ⟨⟨k + 1, a19, c19, ms, a20, c20, rs, M1⟩, ⟨rfl, rfl, rfl, rfl, rfl, rfl, hoa ▸ rfl, rfl, rfl, rfl, congrArg some (congrArg (Value.int .i64) (by simp)), trivial⟩, by (try dsimp only); repeat (first | exact Ent.refl _ | exact Ent.nil | refine Ent.pick ?_ | refine Ent.nilS ?_ | refine Ent.nilM ?_ | refine Ent.drop ?_), ⟨by dsimp only; omega, hle, by dsimp only; omega, habs, hrs, hms⟩, by dsimp only; omega⟩
                · repeat (first | (refine GQ.y ?_; refine Q.y ?_) | refine N.tn ?_ | refine N.tr ?_ | refine N.te ?_ | refine N.bn ?_ | refine N.br ?_ | refine N.be ?_ | refine N.bx rfl ?_ | refine swp_seq ?_ | refine swp_region ?_ | refine opsS_nil ?_ | refine swp_ret ?_ | refine swp_skip ?_ | refine swp_exit ?_ | refine swp_block ?_ | refine swp_cond_true rfl ?_ | refine swp_cond_false rfl ?_ | (refine GQ.g ?_; refine Q.gq ?_) | (refine GQ.s ?_; refine Q.st ?_) | (refine GQ.g ?_; refine Q.gd ?_) | refine Q.ct rfl ?_ | refine Q.cf rfl ?_ | (refine GQ.a ?_; refine Q.al (fun b1 => ?_)))
                  have hbod : ∀ (L L0 : List HP), Pick (bodV 5 (ms.map bodX)) L L0 → ∀ w ∈ ms, RdS L w.a w.body.length 1 (w.body.map B) ∧ w.body.length ≤ 1000000 := fun L L0 hp w hw => by
                    obtain ⟨q1, q2⟩ := hms w hw
                    have := bodV_rd' (t := 5) (bodX w) (L := L) (L0 := L0) (List.mem_map_of_mem hw) (by simpa [bodX] using q2)
                    simp only [bodX, List.length_map] at this
                    exact ⟨this, by omega⟩
                  refine opsS_addr a19 fun hm19 => opsS_addr a20 fun hm20 => ?_
                  refine opsS_pick (nH p d) (S.cr rfl (nPost_spec p d a19 c19 ms _ _ hok (by omega) (RdS.ofS (flat_len LV.cells_len _) hm19) (hbod _ _ inferInstance) (by omega)) ?_)
                  rintro _ _ ⟨rfl, rfl⟩
                  repeat (first | (refine GQ.y ?_; refine Q.y ?_) | refine N.tn ?_ | refine N.tr ?_ | refine N.te ?_ | refine N.bn ?_ | refine N.br ?_ | refine N.be ?_ | refine N.bx rfl ?_ | refine swp_seq ?_ | refine swp_region ?_ | refine opsS_nil ?_ | refine swp_ret ?_ | refine swp_skip ?_ | refine swp_exit ?_ | refine swp_block ?_ | refine swp_cond_true rfl ?_ | refine swp_cond_false rfl ?_ | (refine GQ.g ?_; refine Q.gq ?_) | (refine GQ.s ?_; refine Q.st ?_) | (refine GQ.g ?_; refine Q.gd ?_) | refine Q.ct rfl ?_ | refine Q.cf rfl ?_ | (refine GQ.a ?_; refine Q.al (fun b1 => ?_)))
                  refine opsS_pick (xH px d) (S.cr rfl (xPost_spec px d a20 c20 rs _ _ hok (by omega) (RdS.ofS (flat_len LV.cells_len _) hm20) (fun w hw => ⟨(hrs w hw).rd, ?_⟩) (by omega)) ?_)
                  · have h1 := List.mem_map_of_mem (f := LV.abs) hw
                    rw [habs] at h1
                    obtain ⟨m, hm, e⟩ := List.mem_map.1 h1
                    have e2 : m.body = w.body := (Prod.mk.inj (Prod.mk.inj e).2).2
                    have h2 := (hms m hm).1
                    rw [e2] at h2; omega
                  rintro _ _ ⟨rfl, rfl⟩
                  rw [habs]
                  repeat (first | (refine GQ.y ?_; refine Q.y ?_) | refine N.tn ?_ | refine N.tr ?_ | refine N.te ?_ | refine N.bn ?_ | refine N.br ?_ | refine N.be ?_ | refine N.bx rfl ?_ | refine swp_seq ?_ | refine swp_region ?_ | refine opsS_nil ?_ | refine swp_ret ?_ | refine swp_skip ?_ | refine swp_exit ?_ | refine swp_block ?_ | refine swp_cond_true rfl ?_ | refine swp_cond_false rfl ?_ | (refine GQ.g ?_; refine Q.gq ?_) | (refine GQ.s ?_; refine Q.st ?_) | (refine GQ.g ?_; refine Q.gd ?_) | refine Q.ct rfl ?_ | refine Q.cf rfl ?_ | (refine GQ.a ?_; refine Q.al (fun b1 => ?_)))
                  have hok' : okD (min j 50 + 1) (poD d (ms.map LV.abs)) := hok.po _ (by rw [List.length_map]; omega) (by omega)
                  generalize poD d (ms.map LV.abs) = d2 at hok'
                  refine swp_loop (σ := Nat × List (Option Addr × Nat × List Value)) (fun s => [(7, .pointer p), (10, .pointer px), (12, .pointer (some ⟨b1, 0, none⟩)), (13, .bool true), (19, .slice a19 ms.length c19), (20, .slice a20 rs.length c20), (66, .slice (some ⟨b2, o2, none⟩) ops.length c), (67, .int .i64 ops.length), (68, .int .i64 j), (119, .int .i64 ms.length), (120, .int .i64 s.1)])
                    (fun s => slO 33 3 a19 ms.length c19 (ms.flatMap LV.cells) :: slO 31 3 a20 rs.length c20 (rs.flatMap LV.cells) :: bodV 5 s.2 :: roM M1 :: pt b1 (cl [B o.doo, .slice o.a o.ls.length o.c, .int .i64 o.i, .int .i64 o.j, .bool o.on] 55) :: nH p d2 :: [xH px d2])
                    (fun s => s.1 ≤ ms.length ∧ ∃ pre, s.2 = pre ++ (ms.drop s.1).map bodX ∧ pre.length = s.1) (fun s => ms.length - s.1) (0, ms.map bodX) ⟨rfl, rfl, rfl, congrArg some (congrArg Value.bool (by simp)), rfl, rfl, rfl, rfl, rfl, rfl, rfl, trivial⟩ (by (try dsimp only); repeat (first | exact Ent.refl _ | exact Ent.nil | refine Ent.pick ?_ | refine Ent.nilS ?_ | refine Ent.nilM ?_ | refine Ent.drop ?_)) ⟨by omega, [], by simp, rfl⟩ ?_
                  rintro ⟨q, xs⟩ ⟨hq, pre, hxs, hpre⟩
                  dsimp only at hq hxs hpre ⊢
                  subst hxs
                  repeat (first | (refine GQ.y ?_; refine Q.y ?_) | refine N.tn ?_ | refine N.tr ?_ | refine N.te ?_ | refine N.bn ?_ | refine N.br ?_ | refine N.be ?_ | refine N.bx rfl ?_ | refine swp_seq ?_ | refine swp_region ?_ | refine opsS_nil ?_ | refine swp_ret ?_ | refine swp_skip ?_ | refine swp_exit ?_ | refine swp_block ?_ | refine swp_cond_true rfl ?_ | refine swp_cond_false rfl ?_ | (refine GQ.g ?_; refine Q.gq ?_) | (refine GQ.s ?_; refine Q.st ?_))
                  refine swp_cond rfl (fun hlt => ?_) (fun hge => ?_)
                  · have hlt : q < ms.length := by simpa using hlt
                    obtain ⟨m, hm⟩ := mem_get hlt
                    obtain ⟨r, hr'⟩ := mem_get (l := rs) (k := q) (by omega)
                    have hmr : m.abs = r.abs := (abs_at habs hr' hm).symm
                    have hbm : m.body = r.body := (Prod.mk.inj (Prod.mk.inj hmr).2).2
                    obtain ⟨hm1, hm2⟩ := hms m (List.mem_of_getElem? hm)
                    obtain ⟨b19, rfl⟩ := hm19.resolve_left (by omega)
                    obtain ⟨b20, rfl⟩ := hm20.resolve_left (by omega)
                    have hdq : ms.drop q = m :: ms.drop (q + 1) := by
                      rw [List.drop_eq_getElem_cons hlt]
                      have := (List.getElem?_eq_some_iff.1 hm).2
                      rw [this]
                    rw [hdq, List.map_cons]
                    have hbody : ∀ (L L0 : List HP), Pick (bodV 5 (pre ++ bodX m :: (ms.drop (q + 1)).map bodX)) L L0 → RdS L m.a m.body.length 1 (m.body.map B) := fun L L0 hp => by
                      have := bodV_rd' (t := 5) (bodX m) (xs := pre ++ bodX m :: (ms.drop (q + 1)).map bodX) (L := L) (L0 := L0) (by simp) (by simpa [bodX] using hm2)
                      simpa only [bodX, List.length_map] using this
                    generalize htl : (ms.drop (q + 1)).map bodX = tl at hbody
                    have hA1 : RdC [slO 33 3 (some ⟨b19, 0, none⟩) ms.length c19 (ms.flatMap LV.cells), slO 31 3 (some ⟨b20, 0, none⟩) rs.length c20 (rs.flatMap LV.cells)] b19 (0 + q * 3 + 2) [.slice m.a m.body.length m.c] := (RdC.elem LV.cells_len RdC.ofS hm).at (j := 2) rfl
                    have hA2 : RdC [slO 33 3 (some ⟨b19, 0, none⟩) ms.length c19 (ms.flatMap LV.cells), slO 31 3 (some ⟨b20, 0, none⟩) rs.length c20 (rs.flatMap LV.cells)] b20 (0 + q * 3 + 2) [.slice r.a r.body.length r.c] := (RdC.elem LV.cells_len RdC.ofS hr').at (j := 2) rfl
                    repeat (first | (refine GQ.y ?_; refine Q.y ?_) | refine N.tn ?_ | refine N.tr ?_ | refine N.te ?_ | refine N.bn ?_ | refine N.br ?_ | refine N.be ?_ | refine N.bx rfl ?_ | refine swp_seq ?_ | refine swp_region ?_ | refine opsS_nil ?_ | refine swp_ret ?_ | refine swp_skip ?_ | refine swp_exit ?_ | refine swp_block ?_ | refine swp_cond_true rfl ?_ | refine swp_cond_false rfl ?_ | (refine GQ.g ?_; refine Q.gq ?_) | (refine GQ.s ?_; refine Q.st ?_) | (refine GQ.g ?_; refine Q.gd ?_) | refine Q.ct rfl ?_ | refine Q.cf rfl ?_ | (refine GQ.a ?_; refine Q.al (fun b1 => ?_)))
                    refine Q.dgo [true, true, false, false, false, false, false] [10] [] [0, 1, 2, 3, 4, 5, 6, 7, 8, 9, 10, 11] ?_
                    repeat (first | refine D.endA ?_ | refine Q.dy rfl rfl rfl ?_ | refine Q.dp rfl rfl rfl ?_ | refine D.end_ ?_ | refine Q.endH ?_ | (refine D.e rfl rfl rfl ?_; (first | refine S.gskip1 rfl ?_ | refine S.gskip rfl ?_ | refine S.y (Y.gskipU rfl) ?_); refine opsS_nil ?_; refine N.tn ?_) | refine Q.dT rfl rfl rfl ?_ | refine Q.dF rfl rfl rfl ?_)
                    refine D.e rfl rfl rfl ?_
                    refine S.cr rfl (RSame_spec m.a r.a m.c r.c m.body r.body _ ?_ (hrs r (List.mem_of_getElem? hr')).rd) ?_
                    · exact hbody _ _ inferInstance
                    rintro _ _ ⟨rfl, rfl⟩
                    rw [decide_eq_true hbm]
                    repeat (first | (refine GQ.y ?_; refine Q.y ?_) | refine N.tn ?_ | refine N.tr ?_ | refine N.te ?_ | refine N.bn ?_ | refine N.br ?_ | refine N.be ?_ | refine N.bx rfl ?_ | refine swp_seq ?_ | refine swp_region ?_ | refine opsS_nil ?_ | refine swp_ret ?_ | refine swp_skip ?_ | refine swp_exit ?_ | refine swp_block ?_ | refine swp_cond_true rfl ?_ | refine swp_cond_false rfl ?_ | (refine GQ.g ?_; refine Q.gq ?_) | (refine GQ.s ?_; refine Q.st ?_))
                    repeat (first | refine D.endA ?_ | refine Q.dy rfl rfl rfl ?_ | refine Q.dp rfl rfl rfl ?_ | refine D.end_ ?_ | refine Q.endH ?_ | (refine D.e rfl rfl rfl ?_; (first | refine S.gskip1 rfl ?_ | refine S.gskip rfl ?_ | refine S.y (Y.gskipU rfl) ?_); refine opsS_nil ?_; refine N.tn ?_) | refine Q.dT rfl rfl rfl ?_ | refine Q.dF rfl rfl rfl ?_)
                    repeat (first | (refine GQ.y ?_; refine Q.y ?_) | refine N.tn ?_ | refine N.tr ?_ | refine N.te ?_ | refine N.bn ?_ | refine N.br ?_ | refine N.be ?_ | refine N.bx rfl ?_ | refine swp_seq ?_ | refine swp_region ?_ | refine opsS_nil ?_ | refine swp_ret ?_ | refine swp_skip ?_ | refine swp_exit ?_ | refine swp_block ?_ | refine swp_cond_true rfl ?_ | refine swp_cond_false rfl ?_ | (refine GQ.g ?_; refine Q.gq ?_) | (refine GQ.s ?_; refine Q.st ?_) | (refine GQ.g ?_; refine Q.gd ?_) | refine Q.ct rfl ?_ | refine Q.cf rfl ?_ | (refine GQ.a ?_; refine Q.al (fun b1 => ?_)))
                    refine S.y (Y.ldR rfl ((RdC.elem LV.cells_len RdC.ofS hm).at (j := 2) rfl)) ?_
                    repeat (first | (refine GQ.y ?_; refine Q.y ?_) | refine N.tn ?_ | refine N.tr ?_ | refine N.te ?_ | refine N.bn ?_ | refine N.br ?_ | refine N.be ?_ | refine N.bx rfl ?_ | refine swp_seq ?_ | refine swp_region ?_ | refine opsS_nil ?_ | refine swp_ret ?_ | refine swp_skip ?_ | refine swp_exit ?_ | refine swp_block ?_ | refine swp_cond_true rfl ?_ | refine swp_cond_false rfl ?_ | (refine GQ.g ?_; refine Q.gq ?_) | (refine GQ.s ?_; refine Q.st ?_) | (refine GQ.g ?_; refine Q.gd ?_) | refine Q.ct rfl ?_ | refine Q.cf rfl ?_ | (refine GQ.a ?_; refine Q.al (fun b1 => ?_)))
                    refine swp_loop (σ := Nat × List Value) (fun s => [(7, .pointer p), (10, .pointer px), (12, .pointer (some ⟨b1, 0, none⟩)), (13, .bool true), (19, .slice (some ⟨b19, 0, none⟩) ms.length c19), (20, .slice (some ⟨b20, 0, none⟩) rs.length c20), (24, .int .i64 q), (66, .slice (some ⟨b2, o2, none⟩) ops.length c), (67, .int .i64 ops.length), (68, .int .i64 j), (119, .int .i64 ms.length), (120, .int .i64 q), (140, .int .i64 m.body.length), (141, .int .i64 s.1)])
                      (fun s => slO 5 1 m.a m.body.length m.c s.2 :: bodV 5 (pre ++ tl) :: slO 33 3 (some ⟨b19, 0, none⟩) ms.length c19 (ms.flatMap LV.cells) :: slO 31 3 (some ⟨b20, 0, none⟩) rs.length c20 (rs.flatMap LV.cells) :: roM M1 :: pt b1 (cl [B o.doo, .slice o.a o.ls.length o.c, .int .i64 o.i, .int .i64 o.j, .bool o.on] 55) :: nH p d2 :: [xH px d2])
                      (fun s => s.1 ≤ m.body.length ∧ s.2.length = m.body.length ∧ ∀ v ∈ s.2, ∃ z, v = .int .u8 z) (fun s => m.body.length - s.1) (0, m.body.map B) ⟨rfl, rfl, rfl, rfl, rfl, rfl, rfl, rfl, rfl, rfl, rfl, rfl, rfl, rfl, trivial⟩ ?_ ⟨by omega, by simp, ?_⟩ ?_
                    · dsimp only
                      refine Ent.trans (M := bodV 5 (pre ++ bodX m :: tl) :: slO 33 3 (some ⟨b19, 0, none⟩) ms.length c19 (ms.flatMap LV.cells) :: slO 31 3 (some ⟨b20, 0, none⟩) rs.length c20 (rs.flatMap LV.cells) :: roM M1 :: pt b1 (cl [B o.doo, .slice o.a o.ls.length o.c, .int .i64 o.i, .int .i64 o.j, .bool o.on] 55) :: nH p d2 :: [xH px d2]) (by repeat (first | exact Ent.refl _ | exact Ent.nil | refine Ent.pick ?_ | refine Ent.nilS ?_ | refine Ent.nilM ?_ | refine Ent.drop ?_)) (bodV_out' (a := m.a) (c := m.c) (cs := m.body.map B) (by simp))
                    · intro v hv
                      obtain ⟨z, _, rfl⟩ := List.mem_map.1 hv
                      exact ⟨_, rfl⟩
                    rintro ⟨y, cs⟩ ⟨hy, hcs, hall⟩
                    dsimp only at hy hcs hall ⊢
                    repeat (first | (refine GQ.y ?_; refine Q.y ?_) | refine N.tn ?_ | refine N.tr ?_ | refine N.te ?_ | refine N.bn ?_ | refine N.br ?_ | refine N.be ?_ | refine N.bx rfl ?_ | refine swp_seq ?_ | refine swp_region ?_ | refine opsS_nil ?_ | refine swp_ret ?_ | refine swp_skip ?_ | refine swp_exit ?_ | refine swp_block ?_ | refine swp_cond_true rfl ?_ | refine swp_cond_false rfl ?_ | (refine GQ.g ?_; refine Q.gq ?_) | (refine GQ.s ?_; refine Q.st ?_))
                    refine swp_cond rfl (fun hlt2 => ?_) (fun hge2 => ?_)
                    · have hlt2 : y < m.body.length := by simpa using hlt2
                      obtain ⟨v, hv⟩ := mem_get (l := cs) (k := y) (by omega)
                      obtain ⟨z, rfl⟩ := hall v (List.mem_of_getElem? hv)
                      obtain ⟨bx, hbx⟩ := hm2.resolve_left (by omega)
                      repeat (first | (refine GQ.y ?_; refine Q.y ?_) | refine N.tn ?_ | refine N.tr ?_ | refine N.te ?_ | refine N.bn ?_ | refine N.br ?_ | refine N.be ?_ | refine N.bx rfl ?_ | refine swp_seq ?_ | refine swp_region ?_ | refine opsS_nil ?_ | refine swp_ret ?_ | refine swp_skip ?_ | refine swp_exit ?_ | refine swp_block ?_ | refine swp_cond_true rfl ?_ | refine swp_cond_false rfl ?_ | (refine GQ.g ?_; refine Q.gq ?_) | (refine GQ.s ?_; refine Q.st ?_) | (refine GQ.g ?_; refine Q.gd ?_) | refine Q.ct rfl ?_ | refine Q.cf rfl ?_ | (refine GQ.a ?_; refine Q.al (fun b1 => ?_)))
                      refine S.y (Y.ldR rfl ((RdC.elem LV.cells_len RdC.ofS hm).at (j := 2) rfl)) ?_
                      rw [hbx]
                      repeat (first | (refine GQ.y ?_; refine Q.y ?_) | refine N.tn ?_ | refine N.tr ?_ | refine N.te ?_ | refine N.bn ?_ | refine N.br ?_ | refine N.be ?_ | refine N.bx rfl ?_ | refine swp_seq ?_ | refine swp_region ?_ | refine opsS_nil ?_ | refine swp_ret ?_ | refine swp_skip ?_ | refine swp_exit ?_ | refine swp_block ?_ | refine swp_cond_true rfl ?_ | refine swp_cond_false rfl ?_ | (refine GQ.g ?_; refine Q.gq ?_) | (refine GQ.s ?_; refine Q.st ?_) | (refine GQ.g ?_; refine Q.gd ?_) | refine Q.ct rfl ?_ | refine Q.cf rfl ?_ | (refine GQ.a ?_; refine Q.al (fun b1 => ?_)))
                      refine S.y (Y.ldR (v := .int .u8 z) rfl (RdC.ofS.at (j := y * 1) (by rw [Nat.mul_one]; exact hv))) ?_
                      refine S.y (Y.xor rfl rfl) ?_
                      repeat (first | (refine GQ.y ?_; refine Q.y ?_) | refine N.tn ?_ | refine N.tr ?_ | refine N.te ?_ | refine N.bn ?_ | refine N.br ?_ | refine N.be ?_ | refine N.bx rfl ?_ | refine swp_seq ?_ | refine swp_region ?_ | refine opsS_nil ?_ | refine swp_ret ?_ | refine swp_skip ?_ | refine swp_exit ?_ | refine swp_block ?_ | refine swp_cond_true rfl ?_ | refine swp_cond_false rfl ?_ | (refine GQ.g ?_; refine Q.gq ?_) | (refine GQ.s ?_; refine Q.st ?_) | (refine GQ.g ?_; refine Q.gd ?_) | refine Q.ct rfl ?_ | refine Q.cf rfl ?_ | (refine GQ.a ?_; refine Q.al (fun b1 => ?_)))
                      refine S.stO rfl rfl rfl (by omega) rfl ?_
                      repeat (first | (refine GQ.y ?_; refine Q.y ?_) | refine N.tn ?_ | refine N.tr ?_ | refine N.te ?_ | refine N.bn ?_ | refine N.br ?_ | refine N.be ?_ | refine N.bx rfl ?_ | refine swp_seq ?_ | refine swp_region ?_ | refine opsS_nil ?_ | refine swp_ret ?_ | refine swp_skip ?_ | refine swp_exit ?_ | refine swp_block ?_ | refine swp_cond_true rfl ?_ | refine swp_cond_false rfl ?_ | (refine GQ.g ?_; refine Q.gq ?_) | (refine GQ.s ?_; refine Q.st ?_) | (refine GQ.g ?_; refine Q.gd ?_) | refine Q.ct rfl ?_ | refine Q.cf rfl ?_ | (refine GQ.a ?_; refine Q.al (fun b1 => ?_)))
                      refine ⟨(y + 1, cs.set (0 + y * 1) (.int .u8 (IntKind.u8.wrap ((BitVec.ofInt IntKind.u8.bits z) ^^^ (BitVec.ofInt IntKind.u8.bits 1)).toNat))), ⟨rfl, rfl, rfl, rfl, rfl, rfl, rfl, rfl, rfl, rfl, rfl, rfl, rfl, congrArg some (congrArg (Value.int .i64) (by simp)), trivial⟩, ?_, ⟨by dsimp only; omega, by simp [hcs], ?_⟩, by dsimp only; omega⟩
                      · (try dsimp only); repeat (first | exact Ent.refl _ | exact Ent.nil | refine Ent.pick ?_ | refine Ent.nilS ?_ | refine Ent.nilM ?_ | refine Ent.drop ?_)
                      · intro v hv
                        rcases List.mem_or_eq_of_mem_set hv with hv | rfl
                        · exact hall v hv
                        · exact ⟨_, rfl⟩
                    · repeat (first | (refine GQ.y ?_; refine Q.y ?_) | refine N.tn ?_ | refine N.tr ?_ | refine N.te ?_ | refine N.bn ?_ | refine N.br ?_ | refine N.be ?_ | refine N.bx rfl ?_ | refine swp_seq ?_ | refine swp_region ?_ | refine opsS_nil ?_ | refine swp_ret ?_ | refine swp_skip ?_ | refine swp_exit ?_ | refine swp_block ?_ | refine swp_cond_true rfl ?_ | refine swp_cond_false rfl ?_ | (refine GQ.g ?_; refine Q.gq ?_) | (refine GQ.s ?_; refine Q.st ?_) | (refine GQ.g ?_; refine Q.gd ?_) | refine Q.ct rfl ?_ | refine Q.cf rfl ?_ | (refine GQ.a ?_; refine Q.al (fun b1 => ?_)))
                      refine ⟨(q + 1, pre ++ (m.a, m.c, cs) :: tl), ⟨rfl, rfl, rfl, rfl, rfl, rfl, rfl, rfl, rfl, rfl, congrArg some (congrArg (Value.int .i64) (by simp)), trivial⟩, ?_, ⟨by dsimp only; omega, pre ++ [(m.a, m.c, cs)], by simp [htl], by simp [hpre]⟩, by dsimp only; omega⟩
                      dsimp only
                      refine Ent.trans (M := bodV 5 (pre ++ (m.a, m.c, cs) :: tl) :: slO 33 3 (some ⟨b19, 0, none⟩) ms.length c19 (ms.flatMap LV.cells) :: slO 31 3 (some ⟨b20, 0, none⟩) rs.length c20 (rs.flatMap LV.cells) :: roM M1 :: pt b1 (cl [B o.doo, .slice o.a o.ls.length o.c, .int .i64 o.i, .int .i64 o.j, .bool o.on] 55) :: nH p d2 :: [xH px d2]) (bodV_in' hcs.symm) ?_
                      repeat (first | exact Ent.refl _ | exact Ent.nil | refine Ent.pick ?_ | refine Ent.nilS ?_ | refine Ent.nilM ?_ | refine Ent.drop ?_)
                  · repeat (first | (refine GQ.y ?_; refine Q.y ?_) | refine N.tn ?_ | refine N.tr ?_ | refine N.te ?_ | refine N.bn ?_ | refine N.br ?_ | refine N.be ?_ | refine N.bx rfl ?_ | refine swp_seq ?_ | refine swp_region ?_ | refine opsS_nil ?_ | refine swp_ret ?_ | refine swp_skip ?_ | refine swp_exit ?_ | refine swp_block ?_ | refine swp_cond_true rfl ?_ | refine swp_cond_false rfl ?_ | (refine GQ.g ?_; refine Q.gq ?_) | (refine GQ.s ?_; refine Q.st ?_) | (refine GQ.g ?_; refine Q.gd ?_) | refine Q.ct rfl ?_ | refine Q.cf rfl ?_ | (refine GQ.a ?_; refine Q.al (fun b1 => ?_)))
                    refine ⟨d2, ⟨rfl, rfl, rfl, rfl, rfl, rfl, rfl, trivial⟩, ?_, by rw [hmin]; exact hok'⟩
                    refine Ent.trans (M := roM M1 :: pt b1 (cl [B o.doo, .slice o.a o.ls.length o.c, .int .i64 o.i, .int .i64 o.j, .bool o.on] 55) :: nH p d2 :: [xH px d2]) (by repeat (first | exact Ent.refl _ | exact Ent.nil | refine Ent.pick ?_ | refine Ent.nilS ?_ | refine Ent.nilM ?_ | refine Ent.drop ?_)) ((Ent.roM_le hle).trans (by repeat (first | exact Ent.refl _ | exact Ent.nil | refine Ent.pick ?_ | refine Ent.nilS ?_ | refine Ent.nilM ?_ | refine Ent.drop ?_)))
      · clear hok
        intro d hok
        repeat (first | (refine GQ.y ?_; refine Q.y ?_) | refine N.tn ?_ | refine N.tr ?_ | refine N.te ?_ | refine N.bn ?_ | refine N.br ?_ | refine N.be ?_ | refine N.bx rfl ?_ | refine swp_seq ?_ | refine swp_region ?_ | refine opsS_nil ?_ | refine swp_ret ?_ | refine swp_skip ?_ | refine swp_exit ?_ | refine swp_block ?_ | refine swp_cond_true rfl ?_ | refine swp_cond_false rfl ?_ | (refine GQ.g ?_; refine Q.gq ?_) | (refine GQ.s ?_; refine Q.st ?_) | (refine GQ.g ?_; refine Q.gd ?_) | refine Q.ct rfl ?_ | refine Q.cf rfl ?_ | (refine GQ.a ?_; refine Q.al (fun b1 => ?_)))
        refine swp_cutT (σ := Option Addr × Nat × List LV × (Nat → Option Obj)) (fun s => [(7, .pointer p), (10, .pointer px), (12, .pointer (some ⟨b1, 0, none⟩)), (13, .bool true), (26, .slice s.1 s.2.2.1.length s.2.1), (66, .slice (some ⟨b2, o2, none⟩) ops.length c), (67, .int .i64 ops.length), (68, .int .i64 j)])
          (fun s => pt b1 (cl [B o.doo, .slice o.a o.ls.length o.c, .int .i64 o.i, .int .i64 o.j, .bool o.on] 55) :: nH p d :: xH px d :: roM s.2.2.2 :: [roM M]) (fun s => LSM s.2.2.2 s.1 s.2.2.1 ∧ s.2.2.1.map LV.abs = lsD d) ?_ ?_
        · refine swp_pick (xH px d) (swp_xH (fun e0 e => ?_) (fun bx s e0 e => ?_))
          · subst e0 e
            repeat (first | (refine GQ.y ?_; refine Q.y ?_) | refine N.tn ?_ | refine N.tr ?_ | refine N.te ?_ | refine N.bn ?_ | refine N.br ?_ | refine N.be ?_ | refine N.bx rfl ?_ | refine swp_seq ?_ | refine swp_region ?_ | refine opsS_nil ?_ | refine swp_ret ?_ | refine swp_skip ?_ | refine swp_exit ?_ | refine swp_block ?_ | refine swp_cond_true rfl ?_ | refine swp_cond_false rfl ?_ | (refine GQ.g ?_; refine Q.gq ?_) | (refine GQ.s ?_; refine Q.st ?_) | (refine GQ.g ?_; refine Q.gd ?_) | refine Q.ct rfl ?_ | refine Q.cf rfl ?_ | (refine GQ.a ?_; refine Q.al (fun b1 => ?_)))
            refine ⟨(none, 0, [], fun _ => none), ⟨rfl, rfl, rfl, rfl, rfl, rfl, rfl, rfl, trivial⟩, ?_, LSM_nil, rfl⟩
            dsimp only
            refine Ent.trans (Ent.trans (xH_none rfl) roM_none) ?_
            repeat (first | exact Ent.refl _ | exact Ent.nil | refine Ent.pick ?_ | refine Ent.nilS ?_ | refine Ent.nilM ?_ | refine Ent.drop ?_)
          · subst e0 e
            refine swp_ref fun vs a' c' a2 c2 M1 t hvs hM hSM hcap => swp_pick (roM M1) (swp_dup ?_)
            repeat (first | (refine GQ.y ?_; refine Q.y ?_) | refine N.tn ?_ | refine N.tr ?_ | refine N.te ?_ | refine N.bn ?_ | refine N.br ?_ | refine N.be ?_ | refine N.bx rfl ?_ | refine swp_seq ?_ | refine swp_region ?_ | refine opsS_nil ?_ | refine swp_ret ?_ | refine swp_skip ?_ | refine swp_exit ?_ | refine swp_block ?_ | refine swp_cond_true rfl ?_ | refine swp_cond_false rfl ?_ | (refine GQ.g ?_; refine Q.gq ?_) | (refine GQ.s ?_; refine Q.st ?_) | (refine GQ.g ?_; refine Q.gd ?_) | refine Q.ct rfl ?_ | refine Q.cf rfl ?_ | (refine GQ.a ?_; refine Q.al (fun b1 => ?_)))
            refine ⟨(a', c', vs, M1), ⟨rfl, rfl, rfl, rfl, rfl, rfl, rfl, rfl, trivial⟩, ?_, hM, hvs⟩
            dsimp only
            refine Ent.trans (M := pt bx (cl [.int .i64 s.1, .slice a' vs.length c', .slice a2 s.2.2.2.length c2] t) :: roM M1 :: pt b1 (cl [B o.doo, .slice o.a o.ls.length o.c, .int .i64 o.i, .int .i64 o.j, .bool o.on] 55) :: nH p (some s) :: roM M1 :: [roM M]) ?_ ?_
            · repeat (first | exact Ent.refl _ | exact Ent.nil | refine Ent.pick ?_ | refine Ent.nilS ?_ | refine Ent.nilM ?_ | refine Ent.drop ?_)
            · refine Ent.trans (Ent.trans (ref_shut (c := c') (c2 := c2) (t := t) vs hvs hM hSM hcap rfl rfl) xH_some) ?_
              repeat (first | exact Ent.refl _ | exact Ent.nil | refine Ent.pick ?_ | refine Ent.nilS ?_ | refine Ent.nilM ?_ | refine Ent.drop ?_)
        · rintro ⟨aw, cw, vw, Mw⟩ ⟨hMw, hvw⟩
          dsimp only at hMw hvw ⊢
          have hls : (lsD d).length ≤ 200 := by
            cases d with
            | none => simp [lsD]
            | some s => have := (hok s rfl).2.1; simp only [lsD]; omega
          have hvwl : vw.length ≤ 200 := by have := congrArg List.length hvw; simp only [List.length_map] at this; omega
          repeat (first | (refine GQ.y ?_; refine Q.y ?_) | refine N.tn ?_ | refine N.tr ?_ | refine N.te ?_ | refine N.bn ?_ | refine N.br ?_ | refine N.be ?_ | refine N.bx rfl ?_ | refine swp_seq ?_ | refine swp_region ?_ | refine opsS_nil ?_ | refine swp_ret ?_ | refine swp_skip ?_ | refine swp_exit ?_ | refine swp_block ?_ | refine swp_cond_true rfl ?_ | refine swp_cond_false rfl ?_ | (refine GQ.g ?_; refine Q.gq ?_) | (refine GQ.s ?_; refine Q.st ?_) | (refine GQ.g ?_; refine Q.gd ?_) | refine Q.ct rfl ?_ | refine Q.cf rfl ?_ | (refine GQ.a ?_; refine Q.al (fun b1 => ?_)))
          refine Q.dgo [true, false, false, false, false] [4, 5, 7, 12, 21, 25] [] [0, 1, 2, 3, 6, 4, 5, 7, 8, 9, 10, 11, 13, 14, 12, 15, 16, 17, 18, 19, 20, 22, 23, 24, 21, 25, 26, 27] ?_
          repeat (first | refine D.endA ?_ | refine Q.dy rfl rfl rfl ?_ | refine Q.dp rfl rfl rfl ?_ | refine D.end_ ?_ | refine Q.endH ?_ | (refine D.e rfl rfl rfl ?_; (first | refine S.gskip1 rfl ?_ | refine S.gskip rfl ?_ | refine S.y (Y.gskipU rfl) ?_); refine opsS_nil ?_; refine N.tn ?_) | refine Q.dT rfl rfl rfl ?_ | refine Q.dF rfl rfl rfl ?_)
          refine D.e rfl rfl rfl ?_
          repeat (first | (refine GQ.y ?_; refine Q.y ?_) | refine N.tn ?_ | refine N.tr ?_ | refine N.te ?_ | refine N.bn ?_ | refine N.br ?_ | refine N.be ?_ | refine N.bx rfl ?_ | refine swp_seq ?_ | refine swp_region ?_ | refine opsS_nil ?_ | refine swp_ret ?_ | refine swp_skip ?_ | refine swp_exit ?_ | refine swp_block ?_ | refine swp_cond_true rfl ?_ | refine swp_cond_false rfl ?_ | (refine GQ.g ?_; refine Q.gq ?_) | (refine GQ.s ?_; refine Q.st ?_))
          refine opsS_pick (nH p d) (S.cr rfl (nLetters_spec p d _ _ hok (by omega)) ?_)
          rintro _ _ ⟨a1, c1, vs1, M1, rfl, hv1, hM1, rfl⟩
          have hl1 : vs1.length ≤ 200 := by have := congrArg List.length hv1; simp only [List.length_map] at this; omega
          repeat (first | (refine GQ.y ?_; refine Q.y ?_) | refine N.tn ?_ | refine N.tr ?_ | refine N.te ?_ | refine N.bn ?_ | refine N.br ?_ | refine N.be ?_ | refine N.bx rfl ?_ | refine swp_seq ?_ | refine swp_region ?_ | refine opsS_nil ?_ | refine swp_ret ?_ | refine swp_skip ?_ | refine swp_exit ?_ | refine swp_block ?_ | refine swp_cond_true rfl ?_ | refine swp_cond_false rfl ?_ | (refine GQ.g ?_; refine Q.gq ?_) | (refine GQ.s ?_; refine Q.st ?_))
          refine D.e rfl rfl rfl ?_
          repeat (first | (refine GQ.y ?_; refine Q.y ?_) | refine N.tn ?_ | refine N.tr ?_ | refine N.te ?_ | refine N.bn ?_ | refine N.br ?_ | refine N.be ?_ | refine N.bx rfl ?_ | refine swp_seq ?_ | refine swp_region ?_ | refine opsS_nil ?_ | refine swp_ret ?_ | refine swp_skip ?_ | refine swp_exit ?_ | refine swp_block ?_ | refine swp_cond_true rfl ?_ | refine swp_cond_false rfl ?_ | (refine GQ.g ?_; refine Q.gq ?_) | (refine GQ.s ?_; refine Q.st ?_))
          refine S.cr rfl (back_spec a1 c1 vs1 _ hM1.2.rd (by omega)) ?_
          rintro _ _ ⟨a3, c3, rfl, rfl⟩
          refine opsS_addr a3 fun ha3 => ?_
          repeat (first | (refine GQ.y ?_; refine Q.y ?_) | refine N.tn ?_ | refine N.tr ?_ | refine N.te ?_ | refine N.bn ?_ | refine N.br ?_ | refine N.be ?_ | refine N.bx rfl ?_ | refine swp_seq ?_ | refine swp_region ?_ | refine opsS_nil ?_ | refine swp_ret ?_ | refine swp_skip ?_ | refine swp_exit ?_ | refine swp_block ?_ | refine swp_cond_true rfl ?_ | refine swp_cond_false rfl ?_ | (refine GQ.g ?_; refine Q.gq ?_) | (refine GQ.s ?_; refine Q.st ?_))
          refine D.e rfl rfl rfl ?_
          repeat (first | (refine GQ.y ?_; refine Q.y ?_) | refine N.tn ?_ | refine N.tr ?_ | refine N.te ?_ | refine N.bn ?_ | refine N.br ?_ | refine N.be ?_ | refine N.bx rfl ?_ | refine swp_seq ?_ | refine swp_region ?_ | refine opsS_nil ?_ | refine swp_ret ?_ | refine swp_skip ?_ | refine swp_exit ?_ | refine swp_block ?_ | refine swp_cond_true rfl ?_ | refine swp_cond_false rfl ?_ | (refine GQ.g ?_; refine Q.gq ?_) | (refine GQ.s ?_; refine Q.st ?_))
          refine S.cr rfl (Same_spec a3 aw c3 cw vs1 vw _ (RdS.ofS (flat_len LV.cells_len _) ha3) hMw.2.rd (fun v hv => (hM1.1 v hv).rd) (fun v hv => (hMw.1 v hv).rd) (by omega)) ?_
          rintro _ _ ⟨rfl, rfl⟩
          have hsm : SameL vs1 vw = true := by simp [SameL, hv1, hvw]
          rw [hsm]
          repeat (first | (refine GQ.y ?_; refine Q.y ?_) | refine N.tn ?_ | refine N.tr ?_ | refine N.te ?_ | refine N.bn ?_ | refine N.br ?_ | refine N.be ?_ | refine N.bx rfl ?_ | refine swp_seq ?_ | refine swp_region ?_ | refine opsS_nil ?_ | refine swp_ret ?_ | refine swp_skip ?_ | refine swp_exit ?_ | refine swp_block ?_ | refine swp_cond_true rfl ?_ | refine swp_cond_false rfl ?_ | (refine GQ.g ?_; refine Q.gq ?_) | (refine GQ.s ?_; refine Q.st ?_))
          repeat (first | refine D.endA ?_ | refine Q.dy rfl rfl rfl ?_ | refine Q.dp rfl rfl rfl ?_ | refine D.end_ ?_ | refine Q.endH ?_ | (refine D.e rfl rfl rfl ?_; (first | refine S.gskip1 rfl ?_ | refine S.gskip rfl ?_ | refine S.y (Y.gskipU rfl) ?_); refine opsS_nil ?_; refine N.tn ?_) | refine Q.dT rfl rfl rfl ?_ | refine Q.dF rfl rfl rfl ?_)
          refine D.e rfl rfl rfl ?_
          repeat (first | (refine GQ.y ?_; refine Q.y ?_) | refine N.tn ?_ | refine N.tr ?_ | refine N.te ?_ | refine N.bn ?_ | refine N.br ?_ | refine N.be ?_ | refine N.bx rfl ?_ | refine swp_seq ?_ | refine swp_region ?_ | refine opsS_nil ?_ | refine swp_ret ?_ | refine swp_skip ?_ | refine swp_exit ?_ | refine swp_block ?_ | refine swp_cond_true rfl ?_ | refine swp_cond_false rfl ?_ | (refine GQ.g ?_; refine Q.gq ?_) | (refine GQ.s ?_; refine Q.st ?_))
          refine opsS_pick (nH p d) (S.cr rfl (nLen_spec p d _) ?_)
          rintro _ _ ⟨rfl, rfl⟩
          have hll : (lsD d).length = vw.length := by have := congrArg List.length hvw; simpa using this.symm
          rw [hll]
          repeat (first | (refine GQ.y ?_; refine Q.y ?_) | refine N.tn ?_ | refine N.tr ?_ | refine N.te ?_ | refine N.bn ?_ | refine N.br ?_ | refine N.be ?_ | refine N.bx rfl ?_ | refine swp_seq ?_ | refine swp_region ?_ | refine opsS_nil ?_ | refine swp_ret ?_ | refine swp_skip ?_ | refine swp_exit ?_ | refine swp_block ?_ | refine swp_cond_true rfl ?_ | refine swp_cond_false rfl ?_ | (refine GQ.g ?_; refine Q.gq ?_) | (refine GQ.s ?_; refine Q.st ?_))
          repeat (first | refine D.endA ?_ | refine Q.dy rfl rfl rfl ?_ | refine Q.dp rfl rfl rfl ?_ | refine D.end_ ?_ | refine Q.endH ?_ | (refine D.e rfl rfl rfl ?_; (first | refine S.gskip1 rfl ?_ | refine S.gskip rfl ?_ | refine S.y (Y.gskipU rfl) ?_); refine opsS_nil ?_; refine N.tn ?_) | refine Q.dT rfl rfl rfl ?_ | refine Q.dF rfl rfl rfl ?_)
          refine Q.dF rfl rfl rfl ?_ (hb := by simp)
          repeat (first | refine D.endA ?_ | refine Q.dy rfl rfl rfl ?_ | refine Q.dp rfl rfl rfl ?_ | refine D.end_ ?_ | refine Q.endH ?_ | (refine D.e rfl rfl rfl ?_; (first | refine S.gskip1 rfl ?_ | refine S.gskip rfl ?_ | refine S.y (Y.gskipU rfl) ?_); refine opsS_nil ?_; refine N.tn ?_) | refine Q.dT rfl rfl rfl ?_ | refine Q.dF rfl rfl rfl ?_)
          refine D.e rfl rfl rfl ?_
          repeat (first | (refine GQ.y ?_; refine Q.y ?_) | refine N.tn ?_ | refine N.tr ?_ | refine N.te ?_ | refine N.bn ?_ | refine N.br ?_ | refine N.be ?_ | refine N.bx rfl ?_ | refine swp_seq ?_ | refine swp_region ?_ | refine opsS_nil ?_ | refine swp_ret ?_ | refine swp_skip ?_ | refine swp_exit ?_ | refine swp_block ?_ | refine swp_cond_true rfl ?_ | refine swp_cond_false rfl ?_ | (refine GQ.g ?_; refine Q.gq ?_) | (refine GQ.s ?_; refine Q.st ?_))
          refine opsS_pick (nH p d) (S.cr rfl (nOpen_spec p d o.i _ _ hok) ?_)
          rintro _ _ ⟨rfl, rfl⟩
          repeat (first | (refine GQ.y ?_; refine Q.y ?_) | refine N.tn ?_ | refine N.tr ?_ | refine N.te ?_ | refine N.bn ?_ | refine N.br ?_ | refine N.be ?_ | refine N.bx rfl ?_ | refine swp_seq ?_ | refine swp_region ?_ | refine opsS_nil ?_ | refine swp_ret ?_ | refine swp_skip ?_ | refine swp_exit ?_ | refine swp_block ?_ | refine swp_cond_true rfl ?_ | refine swp_cond_false rfl ?_ | (refine GQ.g ?_; refine Q.gq ?_) | (refine GQ.s ?_; refine Q.st ?_))
          refine D.e rfl rfl rfl ?_
          repeat (first | (refine GQ.y ?_; refine Q.y ?_) | refine N.tn ?_ | refine N.tr ?_ | refine N.te ?_ | refine N.bn ?_ | refine N.br ?_ | refine N.be ?_ | refine N.bx rfl ?_ | refine swp_seq ?_ | refine swp_region ?_ | refine opsS_nil ?_ | refine swp_ret ?_ | refine swp_skip ?_ | refine swp_exit ?_ | refine swp_block ?_ | refine swp_cond_true rfl ?_ | refine swp_cond_false rfl ?_ | (refine GQ.g ?_; refine Q.gq ?_) | (refine GQ.s ?_; refine Q.st ?_))
          refine opsS_pick (xH px d) (S.cr rfl (xOpen_spec px d o.i _ _ hok (by omega)) ?_)
          rintro _ _ ⟨rfl, rfl⟩
          repeat (first | (refine GQ.y ?_; refine Q.y ?_) | refine N.tn ?_ | refine N.tr ?_ | refine N.te ?_ | refine N.bn ?_ | refine N.br ?_ | refine N.be ?_ | refine N.bx rfl ?_ | refine swp_seq ?_ | refine swp_region ?_ | refine opsS_nil ?_ | refine swp_ret ?_ | refine swp_skip ?_ | refine swp_exit ?_ | refine swp_block ?_ | refine swp_cond_true rfl ?_ | refine swp_cond_false rfl ?_ | (refine GQ.g ?_; refine Q.gq ?_) | (refine GQ.s ?_; refine Q.st ?_))
          repeat (first | refine D.endA ?_ | refine Q.dy rfl rfl rfl ?_ | refine Q.dp rfl rfl rfl ?_ | refine D.end_ ?_ | refine Q.endH ?_ | (refine D.e rfl rfl rfl ?_; (first | refine S.gskip1 rfl ?_ | refine S.gskip rfl ?_ | refine S.y (Y.gskipU rfl) ?_); refine opsS_nil ?_; refine N.tn ?_) | refine Q.dT rfl rfl rfl ?_ | refine Q.dF rfl rfl rfl ?_)
          repeat (first | (refine GQ.y ?_; refine Q.y ?_) | refine N.tn ?_ | refine N.tr ?_ | refine N.te ?_ | refine N.bn ?_ | refine N.br ?_ | refine N.be ?_ | refine N.bx rfl ?_ | refine swp_seq ?_ | refine swp_region ?_ | refine opsS_nil ?_ | refine swp_ret ?_ | refine swp_skip ?_ | refine swp_exit ?_ | refine swp_block ?_ | refine swp_cond_true rfl ?_ | refine swp_cond_false rfl ?_ | (refine GQ.g ?_; refine Q.gq ?_) | (refine GQ.s ?_; refine Q.st ?_) | (refine GQ.g ?_; refine Q.gd ?_) | refine Q.ct rfl ?_ | refine Q.cf rfl ?_ | (refine GQ.a ?_; refine Q.al (fun b1 => ?_)))
          cases opD d o.i
          all_goals
            repeat (first | (refine GQ.y ?_; refine Q.y ?_) | refine N.tn ?_ | refine N.tr ?_ | refine N.te ?_ | refine N.bn ?_ | refine N.br ?_ | refine N.be ?_ | refine N.bx rfl ?_ | refine swp_seq ?_ | refine swp_region ?_ | refine opsS_nil ?_ | refine swp_ret ?_ | refine swp_skip ?_ | refine swp_exit ?_ | refine swp_block ?_ | refine swp_cond_true rfl ?_ | refine swp_cond_false rfl ?_ | (refine GQ.g ?_; refine Q.gq ?_) | (refine GQ.s ?_; refine Q.st ?_) | (refine GQ.g ?_; refine Q.gd ?_) | refine Q.ct rfl ?_ | refine Q.cf rfl ?_ | (refine GQ.a ?_; refine Q.al (fun b1 => ?_)))
            refine ⟨(j + 1, d), ⟨rfl, rfl, rfl, rfl, congrArg some (congrArg (Value.int .i64) (by simp)), trivial⟩, ?_, ⟨by dsimp only; omega, hok⟩, by dsimp only; omega⟩
            (try dsimp only); repeat (first | exact Ent.refl _ | exact Ent.nil | refine Ent.pick ?_ | refine Ent.nilS ?_ | refine Ent.nilM ?_ | refine Ent.drop ?_)
    · repeat (first | (refine GQ.y ?_; refine Q.y ?_) | refine N.tn ?_ | refine N.tr ?_ | refine N.te ?_ | refine N.bn ?_ | refine N.br ?_ | refine N.be ?_ | refine N.bx rfl ?_ | refine swp_seq ?_ | refine swp_region ?_ | refine opsS_nil ?_ | refine swp_ret ?_ | refine swp_skip ?_ | refine swp_exit ?_ | refine swp_block ?_ | refine swp_cond_true rfl ?_ | refine swp_cond_false rfl ?_ | (refine GQ.g ?_; refine Q.gq ?_) | (refine GQ.s ?_; refine Q.st ?_) | (refine GQ.g ?_; refine Q.gd ?_) | refine Q.ct rfl ?_ | refine Q.cf rfl ?_ | (refine GQ.a ?_; refine Q.al (fun b1 => ?_)))
      exact N.r1 (RV.tmp rfl RV.nil) (Ent.refl _) rfl
  · repeat (first | (refine GQ.y ?_; refine Q.y ?_) | refine N.tn ?_ | refine N.tr ?_ | refine N.te ?_ | refine N.bn ?_ | refine N.br ?_ | refine N.be ?_ | refine N.bx rfl ?_ | refine swp_seq ?_ | refine swp_region ?_ | refine opsS_nil ?_ | refine swp_ret ?_ | refine swp_skip ?_ | refine swp_exit ?_ | refine swp_block ?_ | refine swp_cond_true rfl ?_ | refine swp_cond_false rfl ?_ | (refine GQ.g ?_; refine Q.gq ?_) | (refine GQ.s ?_; refine Q.st ?_) | (refine GQ.g ?_; refine Q.gd ?_) | refine Q.ct rfl ?_ | refine Q.cf rfl ?_ | (refine GQ.a ?_; refine Q.al (fun b1 => ?_)))
    exact N.r1 (RV.tmp rfl RV.nil) (Ent.refl _) rfl
set_option maxHeartbeats 4000000 in
theorem NetPlays_spec (none_ : Bool) (nodes : Int) (a : Option Addr) (c : Nat) (ops : List OpV) (M : Nat → Option Obj) (L : List HP) (h : SlM M a ops.length 5 (ops.flatMap OpV.cells)) (hm : ops.length ≤ 9223372036854775807) (hb : okOps_ M ops) :
    CallsS Try.prog 7 [.bool none_, .int .i64 nodes, .slice a ops.length c] (roM M :: L) (fun v L' => v = .bool true) := by
  refine CallsS.of_body Try.func7 rfl rfl rfl ?_
  repeat (first | (refine GQ.y ?_; refine Q.y ?_) | refine N.tn ?_ | refine N.tr ?_ | refine N.te ?_ | refine N.bn ?_ | refine N.br ?_ | refine N.be ?_ | refine N.bx rfl ?_ | refine swp_seq ?_ | refine swp_region ?_ | refine opsS_nil ?_ | refine swp_ret ?_ | refine swp_skip ?_ | refine swp_exit ?_ | refine swp_block ?_ | refine swp_cond_true rfl ?_ | refine swp_cond_false rfl ?_ | (refine GQ.g ?_; refine Q.gq ?_) | (refine GQ.s ?_; refine Q.st ?_))
  refine S.cr rfl (awake_spec _) ?_
  rintro _ _ ⟨rfl, rfl⟩
  repeat (first | (refine GQ.y ?_; refine Q.y ?_) | refine N.tn ?_ | refine N.tr ?_ | refine N.te ?_ | refine N.bn ?_ | refine N.br ?_ | refine N.be ?_ | refine N.bx rfl ?_ | refine swp_seq ?_ | refine swp_region ?_ | refine opsS_nil ?_ | refine swp_ret ?_ | refine swp_skip ?_ | refine swp_exit ?_ | refine swp_block ?_ | refine swp_cond_true rfl ?_ | refine swp_cond_false rfl ?_ | (refine GQ.g ?_; refine Q.gq ?_) | (refine GQ.s ?_; refine Q.st ?_) | (refine GQ.g ?_; refine Q.gd ?_) | refine Q.ct rfl ?_ | refine Q.cf rfl ?_)
  have fin : ∀ {f : Env} {L' : List HP}, slots f [(7, .pointer none), (10, .pointer none), (66, .slice a ops.length c), (67, .int .i64 ops.length), (68, .int .i64 0)] → Ent L' [roM M] →
      swp Try.prog Try.f7.ntmps (inB (tailC (headC (skipC 7 code7)))) (blockS 0 (thenS (fun f L => swp Try.prog Try.f7.ntmps (skipC 8 code7) post7 f L) post7)) f L' :=
    fun hs he => swp_keep _ hs (swp_ent (he.trans ((xH_none rfl).trans (nH_none rfl))) (NetPlays_tail none none none a c ops M h hm hb (fun s e => by cases e)))
  by_cases hr : 1 ≤ nodes ∧ nodes ≤ 16
  · obtain ⟨h1, h2⟩ := hr
    refine S.cr rfl (New_spec nodes _ h1 h2) ?_
    rintro _ _ ⟨bn, rfl, rfl⟩
    cases none_ with
    | true =>
      repeat (first | (refine GQ.y ?_; refine Q.y ?_) | refine N.tn ?_ | refine N.tr ?_ | refine N.te ?_ | refine N.bn ?_ | refine N.br ?_ | refine N.be ?_ | refine N.bx rfl ?_ | refine swp_seq ?_ | refine swp_region ?_ | refine opsS_nil ?_ | refine swp_ret ?_ | refine swp_skip ?_ | refine swp_exit ?_ | refine swp_block ?_ | refine swp_cond_true rfl ?_ | refine swp_cond_false rfl ?_ | (refine GQ.g ?_; refine Q.gq ?_) | (refine GQ.s ?_; refine Q.st ?_) | (refine GQ.g ?_; refine Q.gd ?_) | refine Q.ct rfl ?_ | refine Q.cf rfl ?_ | (refine GQ.a ?_; refine Q.al (fun b1 => ?_)))
      exact fin ⟨rfl, rfl, rfl, rfl, rfl, trivial⟩ (by (try dsimp only); repeat (first | exact Ent.refl _ | exact Ent.nil | refine Ent.pick ?_ | refine Ent.nilS ?_ | refine Ent.nilM ?_ | refine Ent.drop ?_))
    | false =>
      repeat (first | (refine GQ.y ?_; refine Q.y ?_) | refine N.tn ?_ | refine N.tr ?_ | refine N.te ?_ | refine N.bn ?_ | refine N.br ?_ | refine N.be ?_ | refine N.bx rfl ?_ | refine swp_seq ?_ | refine swp_region ?_ | refine opsS_nil ?_ | refine swp_ret ?_ | refine swp_skip ?_ | refine swp_exit ?_ | refine swp_block ?_ | refine swp_cond_true rfl ?_ | refine swp_cond_false rfl ?_ | (refine GQ.g ?_; refine Q.gq ?_) | (refine GQ.s ?_; refine Q.st ?_) | (refine GQ.g ?_; refine Q.gd ?_) | refine Q.ct rfl ?_ | refine Q.cf rfl ?_ | (refine GQ.a ?_; refine Q.al (fun b1 => ?_)))
      refine swp_keep [(7, .pointer (some ⟨bn, 0, none⟩)), (10, .pointer (some ⟨b1, 0, none⟩)), (66, .slice a ops.length c), (67, .int .i64 ops.length), (68, .int .i64 0)] ⟨rfl, rfl, rfl, rfl, rfl, trivial⟩ ?_
      refine swp_ent ?_ (NetPlays_tail (some ⟨bn, 0, none⟩) (some ⟨b1, 0, none⟩) (some (nodes, [], List.replicate 256 false, [])) a c ops M h hm hb ?_)
      · refine Ent.trans ?_ (nH_some (s := (nodes, [], List.replicate 256 false, [])))
        refine Ent.trans ?_ (Ent.cons (xH_some (s := (nodes, [], List.replicate 256 false, []))))
        refine Ent.trans ?_ (Ent.cons (ref_shut (a := none) (a2 := none) (c := 0) (c2 := 0) (t := 53) (M := fun _ => none) [] rfl LSM_nil SlM.nil (Nat.le_refl 0) rfl rfl))
        (try dsimp only); repeat (first | exact Ent.refl _ | exact Ent.nil | refine Ent.pick ?_ | refine Ent.nilS ?_ | refine Ent.nilM ?_ | refine Ent.drop ?_)
      · intro s e
        cases e
        exact ⟨⟨h1, h2, rep256, by simp, by simp⟩, by simp, by simp, agree_nil⟩
  · refine S.cr rfl (New_bad nodes _ hr) ?_
    rintro _ _ ⟨rfl, rfl⟩
    by_cases h1 : 1 ≤ nodes
    case' pos => have h2 : ¬ nodes ≤ 16 := fun h => hr ⟨h1, h⟩
    all_goals
      cases none_
      all_goals
        repeat (first | (refine GQ.y ?_; refine Q.y ?_) | refine N.tn ?_ | refine N.tr ?_ | refine N.te ?_ | refine N.bn ?_ | refine N.br ?_ | refine N.be ?_ | refine N.bx rfl ?_ | refine swp_seq ?_ | refine swp_region ?_ | refine opsS_nil ?_ | refine swp_ret ?_ | refine swp_skip ?_ | refine swp_exit ?_ | refine swp_block ?_ | refine swp_cond_true rfl ?_ | refine swp_cond_false rfl ?_ | (refine GQ.g ?_; refine Q.gq ?_) | (refine GQ.s ?_; refine Q.st ?_) | (refine GQ.g ?_; refine Q.gd ?_) | refine Q.ct rfl ?_ | refine Q.cf rfl ?_ | (refine GQ.a ?_; refine Q.al (fun b1 => ?_)))
        exact fin ⟨rfl, rfl, rfl, rfl, rfl, trivial⟩ (by (try dsimp only); repeat (first | exact Ent.refl _ | exact Ent.nil | refine Ent.pick ?_ | refine Ent.nilS ?_ | refine Ent.nilM ?_ | refine Ent.drop ?_))
end Go.Proofs.Ytdjglpmnfckimaa
