/- JurorOnce: the walk. No condition. -/
import Derived.Test.YtjidejcehmamkaaDoorJuJ
set_option linter.unusedVariables false
set_option linter.unusedSimpArgs false
namespace Go.Proofs.YtjidejcehmamkaaDoor
open Go Go.SX
attribute [local irreducible] swp opsS thenS blockS retS CallsS St Ent YieldS anyS drawS
structure EO where
  fr : Int
  n : NV
  w : Bool
  r : Bool
  ask : Int
  id : Int
abbrev EO.cells (o : EO) : List Value := [.int .i64 o.fr, .int .u8 o.n.kind, .int .u64 o.n.txn, .int .u64 o.n.batch, .int .u64 o.n.stamp, .int .u64 o.n.after, .int .u64 o.n.mark, .int .u64 o.n.query, .int .u64 o.n.id, .int .i64 o.n.k, .int .i64 o.n.ef, .int .i64 o.n.code, .int .i64 o.n.who,
  .slice o.n.pa o.n.parts.length o.n.pc, .slice o.n.oa o.n.ops.length o.n.oc, .slice o.n.va o.n.vec.length o.n.vc, .slice o.n.ha o.n.hits.length o.n.hc, .bool o.w, .bool o.r, .int .u64 o.ask, .int .u64 o.id]
structure EOK (M : Nat → Option Obj) (o : EO) : Prop where
  n : okN M o.n
  c : CapN o.n
  u : NumN o.n
theorem EOK.mono {M M' : Nat → Option Obj} {o : EO} (h : EOK M o) (hl : leM M M') : EOK M' o := ⟨h.n.mono hl, h.c, h.u⟩
theorem NumN.few {n' : NV} {n : NV} (h : NumN n) (e : n'.abs = n.abs.few) : NumN n' := by
  have e1 : n'.kind = n.kind := congrArg NA.kind e
  have e2 : n'.txn = n.txn := congrArg NA.txn e
  have e3 : n'.stamp = n.stamp := congrArg NA.stamp e
  have e4 : n'.mark = n.mark := congrArg NA.mark e
  have e5 : n'.after = n.after := congrArg NA.after e
  exact ⟨by rw [e1]; exact h.kind, by rw [e2]; exact h.txn, by rw [e3]; exact h.stamp, by rw [e4]; exact h.mark, by rw [e5]; exact h.after⟩
section
variable {n : Nat} {ops rest : List Oper} {Q : Post} {f : Env} {L L0 : List HP} {M : Nat → Option Obj}
theorem S.cm {d : Tmp} {ty : TypeId} {pos : String} {af : Array Edge} {g : FuncId} {xs : Array Operand} {ats : Array TypeId} {args : List Value} {R : Value → List HP → Prop} [hm : PickM L M L0] [he : Enters Tryd.prog g] (hx : argsL f xs.toList = some args) (hc : CallsS Tryd.prog g args (roM M :: L0) R) (hk : ∀ v L', R v L' → opsS Tryd.prog n ops rest Q (upd f d v) L') :
    opsS Tryd.prog n ops (⟨some d, .call ⟨.value (.func g), xs, ats⟩, ty, pos, af, none⟩ :: rest) Q f L := opsS_ent hm.ent (S.cr hx hc hk)
end
structure OnceI (j : JS) (k : Nat) (P : List (Int × Bool)) : Prop where
  ok : JOK j k
  kP : keysOK P
  pr : ∀ t, (lkL j.v.its t).isSome = true → lkL P t = some true
set_option maxHeartbeats 2000000 in
theorem JurorOnce_spec (a : Option Addr) (c : Nat) (xs : List EO) (M : Nat → Option Obj) (h : SlM M a xs.length 21 (xs.flatMap EO.cells)) (hx : ∀ o ∈ xs, EOK M o) (hn : xs.length ≤ 9223372036854775807) (hT : TabM M) :
    CallsS Tryd.prog 3 [.slice a xs.length c] [roM M] (fun r _ => r = .bool true) := by
  refine CallsS.of_body Tryd.func3 rfl rfl rfl ?_
  refine Q.r ?_; (repeat (intro b1; refine Q.r ?_))
  refine S.cr rfl (awake14_spec M _ hT) ?_
  rintro _ _ ⟨M1, rfl, hl1, rfl⟩
  refine Q.r ?_; (repeat (intro b1; refine Q.r ?_))
  refine S.cr rfl (JNew_spec M1 2 2 _ (by decide) (by decide) (by decide) (by decide)) ?_
  rintro _ _ ⟨p, rfl, rfl⟩
  refine Q.r ?_; (repeat (intro b1; refine Q.r ?_))
  refine S.mkm U64 U64 (fun md => ?_)
  refine Q.r ?_; (repeat (intro b1; refine Q.r ?_))
  refine S.mkm U64 Value.bool (fun mp => ?_)
  refine Q.r ?_; (repeat (intro b1; refine Q.r ?_))
  refine swp_cutB (σ := Unit) (fun _ => []) (fun _ => []) (fun _ => True) ?_ ?_
  · refine swp_loop (σ := Nat × JS × List (Int × Bool) × (Nat → Option Obj)) (fun s => [(3, ptrJ p), (5, .map (some md)), (6, .map (some mp)), (25, .slice a xs.length c), (26, .int .i64 xs.length), (27, .int .i64 s.1)])
      (fun s => jurH s.2.2.2 p s.2.1 :: mpO U64 U64 md s.2.1.done :: mpO U64 Value.bool mp s.2.2.1 :: roM s.2.2.2 :: [])
      (fun s => s.1 ≤ xs.length ∧ s.1 ≤ 50 ∧ OnceI s.2.1 s.1 s.2.2.1 ∧ leM M1 s.2.2.2) (fun s => xs.length - s.1) (0, J0 2, [], M1) ⟨rfl, rfl, rfl, rfl, rfl, rfl, trivial⟩ (by repeat (first | exact Ent.refl _ | exact Ent.nil | refine Ent.pick ?_ | refine Ent.nilS ?_ | refine Ent.nilM ?_ | refine Ent.drop ?_)) ⟨by omega, by omega, ⟨J0.ok (by decide) (by decide), by simp [keysOK], by simp [lkL]⟩, leM.refl M1⟩ ?_
    rintro ⟨k, j, P, M2⟩ ⟨hk1, hk2, hI, hl2⟩
    dsimp only at hk1 hk2 hI hl2 ⊢
    by_cases hlt : k < xs.length
    · obtain ⟨o, ho⟩ := mem_get hlt
      have hmo : o ∈ xs := List.mem_of_getElem? ho
      have hl12 := hl1.trans hl2
      obtain ⟨b, oo, hab, cr⟩ := SlM.cm (g := EO.cells) (fun _ => rfl) (h.mono hl12) ho rfl
      rw [hab]
      by_cases h50 : 50 ≤ k
      · refine Q.r ?_; (repeat (intro b1; refine Q.r ?_))
        exact ⟨(), trivial, by repeat (first | exact Ent.refl _ | exact Ent.nil | refine Ent.pick ?_ | refine Ent.nilS ?_ | refine Ent.nilM ?_ | refine Ent.drop ?_), trivial⟩
      · refine Q.r ?_; (repeat (intro b1; refine Q.r ?_))
        refine S.cm rfl (NFew_spec o.n M2 _ ((hx o hmo).n.mono hl12) (hx o hmo).c) ?_
        rintro _ _ ⟨n, M3, rfl, hl3, hn3, hc3, he3, rfl⟩
        have hN3 := few_OkN he3
        have hu3 := (hx o hmo).u.few he3
        refine opsS_jm p hl3 ?_
        clear cr
        by_cases hkd : 11 < n.kind
        · refine Q.r ?_; (repeat (intro b1; refine Q.r ?_))
          exact ⟨(k + 1, j, P, M3), ⟨rfl, rfl, rfl, rfl, rfl, rfl, trivial⟩, by repeat (first | exact Ent.refl _ | exact Ent.nil | refine Ent.pick ?_ | refine Ent.nilS ?_ | refine Ent.nilM ?_ | refine Ent.drop ?_), ⟨by dsimp only; omega, by dsimp only; omega, ⟨hI.ok.le (by dsimp only; omega), hI.kP, hI.pr⟩, hl2.trans hl3⟩, by dsimp only; omega⟩
        refine Q.r ?_; (repeat (intro b1; refine Q.r ?_))
        refine S.cj p rfl (Plan_spec n M3 p j k o.fr _ hI.ok.w (by omega) hI.ok.ne hn3 hN3 (hT.mono (hl12.trans hl3)) hu3.kind) ?_
        rintro _ _ ⟨ra, rc, ma, mc, ea, ec, M4, rfl, hl4, rfl⟩
        have hpl := plan_cases hI.ok (n := n.abs) hu3.txn o.fr
        generalize planV j o.fr n.abs = pl at hpl ⊢
        refine opsS_abs ra (fun M5 hl5 hs5 => ?_)
        refine opsS_jm p hl5 ?_
        refine Q.r ?_; (repeat (intro b1; refine Q.r ?_))
        have hl25 : leM M1 M5 := hl2.trans (hl3.trans (hl4.trans hl5))
        have hT5 : TabM M5 := (hT.mono hl1).mono hl25
        have hn5 : okN M5 n := hn3.mono (hl4.trans hl5)
        refine swp_cutB (σ := JS × List (Int × Bool) × (Nat → Option Obj)) (fun s => [(3, ptrJ p), (5, .map (some md)), (6, .map (some mp)), (25, .slice (some ⟨b, oo, none⟩) xs.length c), (26, .int .i64 xs.length), (27, .int .i64 k)])
          (fun s => jurH s.2.2 p s.1 :: mpO U64 U64 md s.1.done :: mpO U64 Value.bool mp s.2.1 :: roM s.2.2 :: []) (fun s => OnceI s.1 (k + 1) s.2.1 ∧ leM M1 s.2.2) ?_ ?_
        · have hlen : pl.rec_.length ≤ 1 := by rcases hpl with h | h | h | h <;> first | (rw [h]; exact Nat.zero_le _) | (rw [h.1]; exact Nat.le_refl _)
          refine swp_loop (σ := Nat × JS × List (Int × Bool) × (Nat → Option Obj)) (fun s => [(3, ptrJ p), (5, .map (some md)), (6, .map (some mp)), (25, .slice (some ⟨b, oo, none⟩) xs.length c), (26, .int .i64 xs.length), (27, .int .i64 k), (46, .slice ra pl.rec_.length rc), (47, .int .i64 pl.rec_.length), (48, .int .i64 s.1)])
            (fun s => jurH s.2.2.2 p s.2.1 :: mpO U64 U64 md s.2.1.done :: mpO U64 Value.bool mp s.2.2.1 :: roM s.2.2.2 :: [])
            (fun s => s.1 ≤ pl.rec_.length ∧ ((s.1 = 0 ∧ s.2 = (j, P, M5)) ∨ (s.1 = 1 ∧ OnceI s.2.1 (k + 1) s.2.2.1 ∧ leM M1 s.2.2.2))) (fun s => pl.rec_.length - s.1) (0, j, P, M5) ⟨rfl, rfl, rfl, rfl, rfl, rfl, rfl, rfl, rfl, trivial⟩ (by repeat (first | exact Ent.refl _ | exact Ent.nil | refine Ent.pick ?_ | refine Ent.nilS ?_ | refine Ent.nilM ?_ | refine Ent.drop ?_)) ⟨Nat.zero_le _, .inl ⟨rfl, rfl⟩⟩ ?_
          rintro ⟨q, j2, P2, M6⟩ ⟨hq1, hq2⟩
          dsimp only at hq1 hq2 ⊢
          by_cases hqt : q < pl.rec_.length
          · have hq0 : q = 0 := by omega
            subst hq0
            rcases hq2 with ⟨_, hq2⟩ | ⟨h, _⟩
            case inr => cases h
            cases hq2
            rcases hpl with hp | ⟨hp, hO, hdn, hits⟩ | ⟨hp, hheld, hO, hpos, hdn, hits⟩ | ⟨hp, hO, hdn, hits⟩
            · rw [hp] at hqt; cases hqt
            · obtain ⟨br, or, hra, cr⟩ := SlM.cm (g := fun r => (liftN n r).cells) (k := 0) (fun _ => rfl) hs5 (by rw [hp]; rfl) rfl
              rw [show liftN n { n.abs with kind := 12 } = { n with kind := 12 } from rfl] at cr
              rw [hra]
              have hnd : lkL j.done n.txn = none := hO.nd
              refine Q.rn ?_; (repeat (intro b1; refine Q.rn ?_))
              refine S.y (Y.lk false rfl rfl (fun w => Tryd.zeroValue30 w)) ?_
              rw [hnd]
              dsimp only
              refine Q.r ?_; (repeat (intro b1; refine Q.r ?_))
              refine S.mu (r := Value.bool) (u := true) rfl rfl rfl ?_
              refine Q.r ?_; (repeat (intro b1; refine Q.r ?_))
              refine S.cj p rfl (Apply_spec' { n with kind := 12 } M5 p j k _ hI.ok.w (by omega) ⟨hn5.p, hn5.o, hn5.v, hn5.h, hn5.hv⟩ ⟨hN3.p, hN3.o, hN3.ov, hN3.v, hN3.h, hN3.hv⟩ hT5 ⟨by show (0 : Int) ≤ 12 ∧ (12 : Int) ≤ 255; decide, hu3.txn, hu3.stamp, hu3.mark, hu3.after⟩) ?_
              rintro _ _ ⟨M7, rfl, hl7, rfl⟩
              rw [show appE j (NV.abs { n with kind := 12 }) = 0 from hO.e]
              refine Q.r ?_; (repeat (intro b1; refine Q.r ?_))
              refine ⟨(1, appS j (NV.abs { n with kind := 12 }), putL P n.txn true, M7), ⟨rfl, rfl, rfl, rfl, rfl, rfl, rfl, rfl, rfl, trivial⟩, ?_, ⟨hqt, .inr ⟨rfl, ⟨hO.ok, putL_ok hI.kP _ _, fun t ht => ?_⟩, hl25.trans hl7⟩⟩, by dsimp only; omega⟩
              · dsimp only
                rw [show (appS j (NV.abs { n with kind := 12 })).done = j.done from hdn]
                repeat (first | exact Ent.refl _ | exact Ent.nil | refine Ent.pick ?_ | refine Ent.nilS ?_ | refine Ent.nilM ?_ | refine Ent.drop ?_)
              · dsimp only at ht ⊢
                rw [lkL_put hI.kP]
                by_cases htt : t = n.txn
                · rw [if_pos htt]
                · rw [if_neg htt]
                  rcases hits t ht with h | h
                  · exact absurd h htt
                  · exact hI.pr t h
            · obtain ⟨br, or, hra, cr⟩ := SlM.cm (g := fun r => (liftN n r).cells) (k := 0) (fun _ => rfl) hs5 (by rw [hp]; rfl) rfl
              rw [show liftN n (comN n.abs.txn n.abs.stamp) = NA.nv (comN n.txn n.stamp) from rfl] at cr
              rw [hra]
              have hnd : lkL j.done n.txn = none := hO.nd
              have hP : lkL P n.txn = some true := hI.pr _ hheld
              refine Q.rn ?_; (repeat (intro b1; refine Q.rn ?_))
              refine S.y (Y.lk false rfl rfl (fun w => Tryd.zeroValue4 w)) ?_
              rw [hP]
              dsimp only
              refine Q.r ?_; (repeat (intro b1; refine Q.r ?_))
              refine S.y (Y.lk false rfl rfl (fun w => Tryd.zeroValue30 w)) ?_
              rw [hnd]
              dsimp only
              refine Q.r ?_; (repeat (intro b1; refine Q.r ?_))
              refine S.mu (r := U64) (u := n.stamp) rfl rfl rfl ?_
              refine Q.r ?_; (repeat (intro b1; refine Q.r ?_))
              refine S.cj p rfl (Apply_spec' (NA.nv (comN n.txn n.stamp)) M5 p j k _ hI.ok.w (by omega) (okN.nv _) (OkN.nv _) hT5 ⟨by show (0 : Int) ≤ 13 ∧ (13 : Int) ≤ 255; decide, hu3.txn, hu3.stamp, Int.le_refl _, Int.le_refl _⟩) ?_
              rintro _ _ ⟨M7, rfl, hl7, rfl⟩
              rw [show appE j (NV.abs (NA.nv (comN n.txn n.stamp))) = 0 from hO.e]
              refine Q.r ?_; (repeat (intro b1; refine Q.r ?_))
              refine ⟨(1, appS j (NV.abs (NA.nv (comN n.txn n.stamp))), P, M7), ⟨rfl, rfl, rfl, rfl, rfl, rfl, rfl, rfl, rfl, trivial⟩, ?_, ⟨hqt, .inr ⟨rfl, ⟨hO.ok, hI.kP, fun t ht => hI.pr t (hits t ht)⟩, hl25.trans hl7⟩⟩, by dsimp only; omega⟩
              dsimp only
              rw [show (appS j (NV.abs (NA.nv (comN n.txn n.stamp)))).done = putL j.done n.txn n.stamp from hdn]
              repeat (first | exact Ent.refl _ | exact Ent.nil | refine Ent.pick ?_ | refine Ent.nilS ?_ | refine Ent.nilM ?_ | refine Ent.drop ?_)
            · obtain ⟨br, or, hra, cr⟩ := SlM.cm (g := fun r => (liftN n r).cells) (k := 0) (fun _ => rfl) hs5 (by rw [hp]; rfl) rfl
              rw [show liftN n (aboN n.abs.txn) = NA.nv (aboN n.txn) from rfl] at cr
              rw [hra]
              have hnd : lkL j.done n.txn = none := hO.nd
              refine Q.rn ?_; (repeat (intro b1; refine Q.rn ?_))
              refine S.y (Y.lk false rfl rfl (fun w => Tryd.zeroValue30 w)) ?_
              rw [hnd]
              dsimp only
              refine Q.r ?_; (repeat (intro b1; refine Q.r ?_))
              refine S.mu (r := Value.bool) (u := false) rfl rfl rfl ?_
              refine Q.r ?_; (repeat (intro b1; refine Q.r ?_))
              refine S.cj p rfl (Apply_spec' (NA.nv (aboN n.txn)) M5 p j k _ hI.ok.w (by omega) (okN.nv _) (OkN.nv _) hT5 ⟨by show (0 : Int) ≤ 14 ∧ (14 : Int) ≤ 255; decide, hu3.txn, Int.le_refl _, Int.le_refl _, Int.le_refl _⟩) ?_
              rintro _ _ ⟨M7, rfl, hl7, rfl⟩
              rw [show appE j (NV.abs (NA.nv (aboN n.txn))) = 0 from hO.e]
              refine Q.r ?_; (repeat (intro b1; refine Q.r ?_))
              refine ⟨(1, appS j (NV.abs (NA.nv (aboN n.txn))), putL P n.txn false, M7), ⟨rfl, rfl, rfl, rfl, rfl, rfl, rfl, rfl, rfl, trivial⟩, ?_, ⟨hqt, .inr ⟨rfl, ⟨hO.ok, putL_ok hI.kP _ _, fun t ht => ?_⟩, hl25.trans hl7⟩⟩, by dsimp only; omega⟩
              · dsimp only
                rw [show (appS j (NV.abs (NA.nv (aboN n.txn)))).done = j.done from hdn]
                repeat (first | exact Ent.refl _ | exact Ent.nil | refine Ent.pick ?_ | refine Ent.nilS ?_ | refine Ent.nilM ?_ | refine Ent.drop ?_)
              · dsimp only at ht ⊢
                have := hits t ht
                rw [lkL_put hI.kP, if_neg this.1]
                exact hI.pr t this.2
          · refine Q.r ?_; (repeat (intro b1; refine Q.r ?_))
            refine ⟨(j2, P2, M6), ⟨rfl, rfl, rfl, rfl, rfl, rfl, trivial⟩, Ent.refl _, ?_⟩
            rcases hq2 with ⟨_, h2⟩ | ⟨_, h2⟩
            · cases h2; exact ⟨⟨hI.ok.le (by omega), hI.kP, hI.pr⟩, hl25⟩
            · exact h2
        · rintro ⟨j2, P2, M6⟩ ⟨hI2, hl6⟩
          dsimp only at hI2 hl6 ⊢
          refine Q.r ?_; (repeat (intro b1; refine Q.r ?_))
          refine S.rg rfl (fun r => ?_)
          refine Q.r ?_; (repeat (intro b1; refine Q.r ?_))
          refine swp_loop (σ := List Nat) (fun _ => [(3, ptrJ p), (5, .map (some md)), (6, .map (some mp)), (25, .slice (some ⟨b, oo, none⟩) xs.length c), (26, .int .i64 xs.length), (27, .int .i64 k), (99, .pointer (some ⟨r, 0, none⟩))])
            (fun vis => jurH M6 p j2 :: itO U64 U64 md r j2.done vis :: mpO U64 Value.bool mp P2 :: roM M6 :: []) (fun vis => vis.Nodup ∧ ∀ i ∈ vis, i < j2.done.length) (fun vis => j2.done.length - vis.length) [] ⟨rfl, rfl, rfl, rfl, rfl, rfl, rfl, trivial⟩ (by repeat (first | exact Ent.refl _ | exact Ent.nil | refine Ent.pick ?_ | refine Ent.nilS ?_ | refine Ent.nilM ?_ | refine Ent.drop ?_)) ⟨by simp, by simp⟩ ?_
          rintro vis ⟨hv1, hv2⟩
          refine Q.r ?_; (repeat (intro b1; refine Q.r ?_))
          refine S.nx rfl (fun hend => ?_) (fun i u hu hi => ?_)
          · refine Q.r ?_; (repeat (intro b1; refine Q.r ?_))
            refine ⟨(k + 1, j2, P2, M6), ⟨rfl, rfl, rfl, rfl, rfl, rfl, trivial⟩, Ent.cons itO_map, ⟨by dsimp only; omega, by dsimp only; omega, hI2, hl6⟩, by dsimp only; omega⟩
          · obtain ⟨m1, m2, m3⟩ := vis_more hv1 hv2 (List.getElem?_eq_some_iff.1 hu).1 hi
            have hlk : lkL j2.done u.1 = some u.2 := (lkL_iff hI2.ok.kd).2 (List.mem_of_getElem? hu)
            refine Q.r ?_; (repeat (intro b1; refine Q.r ?_))
            refine S.y (Y.en rfl hu) ?_
            refine Q.r ?_; (repeat (intro b1; refine Q.r ?_))
            refine S.cjn p rfl (JDone_spec M6 p j2 u.1 _) ?_
            rintro _ _ ⟨rfl, rfl⟩
            rw [hlk]
            dsimp only [Option.getD_some, Option.isSome_some]
            refine Q.r ?_; (repeat (intro b1; refine Q.r ?_))
            exact ⟨vis ++ [i], ⟨rfl, rfl, rfl, rfl, rfl, rfl, rfl, trivial⟩, by repeat (first | exact Ent.refl _ | exact Ent.nil | refine Ent.pick ?_ | refine Ent.nilS ?_ | refine Ent.nilM ?_ | refine Ent.drop ?_), ⟨m1, m2⟩, by simp; omega⟩
    · have hke : k = xs.length := by omega
      subst hke
      refine Q.r ?_; (repeat (intro b1; refine Q.r ?_))
      exact ⟨(), trivial, by repeat (first | exact Ent.refl _ | exact Ent.nil | refine Ent.pick ?_ | refine Ent.nilS ?_ | refine Ent.nilM ?_ | refine Ent.drop ?_), trivial⟩
  · rintro _ _
    refine Q.r ?_; (repeat (intro b1; refine Q.r ?_))
    exact N.r1 (RV.tmp rfl RV.nil) (by repeat (first | exact Ent.refl _ | exact Ent.nil | refine Ent.pick ?_ | refine Ent.nilS ?_ | refine Ent.nilM ?_ | refine Ent.drop ?_)) rfl
end Go.Proofs.YtjidejcehmamkaaDoor
