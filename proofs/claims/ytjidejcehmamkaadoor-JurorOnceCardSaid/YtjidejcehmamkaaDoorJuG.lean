/- The juror: prepare. No condition. -/
import Derived.Test.YtjidejcehmamkaaDoorJuD
set_option linter.unusedVariables false
set_option linter.unusedSimpArgs false
namespace Go.SX
open Go
section
variable {P : Program} {n : Nat} {ops : List Oper} {Q : Post} {f : Env} {A L : List HP} {cs : List Nat}
theorem A.three (i j m0 : Nat) {k : Nat} {listed : Array Bool} {held : Bool} {o o' o2 : Oper} (hr : Region.ready .any ops.toArray listed = [i, j, m0]) (hi : ops[i]? = some o) (hj : ops[j]? = some o') (h2 : ops[m0]? = some o2)
    (h : oneS P n ops o (fun f L => anyS P n ops Q cs A k (listed.setIfInBounds i true) held f L) f L)
    (h' : oneS P n ops o' (fun f L => anyS P n ops Q cs A k (listed.setIfInBounds j true) held f L) f L)
    (h'' : oneS P n ops o2 (fun f L => anyS P n ops Q cs A k (listed.setIfInBounds m0 true) held f L) f L) : anyS P n ops Q cs A (k + 1) listed held f L := by
  intro ok F a w s hsh t hh
  refine ⟨fun h0 => (by rw [h0] at hr; cases hr), fun m hm => ?_⟩
  have hri : i ∈ Region.ready .any ops.toArray listed := by rw [hr]; simp
  have hrj : j ∈ Region.ready .any ops.toArray listed := by rw [hr]; simp
  have hrm : m0 ∈ Region.ready .any ops.toArray listed := by rw [hr]; simp
  rw [hr] at hm
  rcases (by simpa using hm : m = i ∨ m = j ∨ m = m0) with rfl | rfl | rfl
  · cases held with
    | true => exact one_of (M' := A) hi ok s (by simpa using t) (hsh.set hri) (.inl ⟨rfl, rfl⟩) h
    | false => exact one_of (M' := []) hi ok s (by simpa using t) (hsh.set hri) (.inr ⟨rfl, rfl, hit_set (hh rfl)⟩) h
  · cases held with
    | true => exact one_of (M' := A) hj ok s (by simpa using t) (hsh.set hrj) (.inl ⟨rfl, rfl⟩) h'
    | false => exact one_of (M' := []) hj ok s (by simpa using t) (hsh.set hrj) (.inr ⟨rfl, rfl, hit_set (hh rfl)⟩) h'
  · cases held with
    | true => exact one_of (M' := A) h2 ok s (by simpa using t) (hsh.set hrm) (.inl ⟨rfl, rfl⟩) h''
    | false => exact one_of (M' := []) h2 ok s (by simpa using t) (hsh.set hrm) (.inr ⟨rfl, rfl, hit_set (hh rfl)⟩) h''
end
section
variable {P : Program} {n : Nat} {ops : List Oper} {Q : Post} {f : Env} {A L : List HP} {E cs σ : List Nat} {listed : Array Bool} {held : Bool}
theorem D.three (i j m : Nat) (σ1 σ2 σ3 : List Nat) {τ : List Nat} {o o' o2 : Oper} (hr : Region.ready .any ops.toArray listed = [i, j, m]) (hi : ops[i]? = some o) (hj : ops[j]? = some o') (hm : ops[m]? = some o2) (hl1 : σ1.length = τ.length) (hl2 : σ2.length = τ.length) (hl3 : σ3.length = τ.length)
    (ho1 : ordOK ops.toArray E cs σ1 (listed.setIfInBounds i true) = true) (ho2 : ordOK ops.toArray E cs σ2 (listed.setIfInBounds j true) = true) (ho3 : ordOK ops.toArray E cs σ3 (listed.setIfInBounds m true) = true)
    (h1 : opsS P n ops [o] (thenS (fun f L => drawS P n ops E cs A σ1 Q (listed.setIfInBounds i true) held f L) (fun _ _ _ => False)) f L)
    (h2 : opsS P n ops [o'] (thenS (fun f L => drawS P n ops E cs A σ2 Q (listed.setIfInBounds j true) held f L) (fun _ _ _ => False)) f L)
    (h3 : opsS P n ops [o2] (thenS (fun f L => drawS P n ops E cs A σ3 Q (listed.setIfInBounds m true) held f L) (fun _ _ _ => False)) f L) : drawS P n ops E cs A (99999 :: τ) Q listed held f L := by
  intro _ hs hQ
  exact _root_.Go.SX.A.three i j m hr hi hj hm (fun ok F a w s t => wpList_mono (h1 ok F a w s t) (by rintro e a w ⟨f, L, s, t, q⟩; cases e <;> first | exact ⟨f, L, s, t, hl1 ▸ q ho1 hs hQ⟩ | exact q.elim))
    (fun ok F a w s t => wpList_mono (h2 ok F a w s t) (by rintro e a w ⟨f, L, s, t, q⟩; cases e <;> first | exact ⟨f, L, s, t, hl2 ▸ q ho2 hs hQ⟩ | exact q.elim))
    (fun ok F a w s t => wpList_mono (h3 ok F a w s t) (by rintro e a w ⟨f, L, s, t, q⟩; cases e <;> first | exact ⟨f, L, s, t, hl3 ▸ q ho3 hs hQ⟩ | exact q.elim))
end
section
variable {P : Program} {n : Nat} {ops rest : List Oper} {Q : Post} {f : Env} {A L : List HP} {d : Tmp} {ty : TypeId} {pos : String} {af : Array Edge}
theorem S.bs1 {t e : TypeId} {x : Operand} {v : Value} {sz bts : Nat} {ag : Bool} {zs cs : List Value} [h1 : SlTy P t e] [h2 : Ty P e ag sz zs bts]
    (hx : ev f x = some v) (hv : v.cells.toList = cs) (hz0 : Nat.beq zs.length sz = true) (hsm : Nat.ble sz 16777216 = true) (hn : Nat.beq cs.length sz = true)
    (hk : ∀ b, opsS P n ops rest Q (upd f d (.slice (some ⟨b, 0, none⟩) 1 1)) (slO e sz (some ⟨b, 0, none⟩) 1 1 cs :: L)) : opsS P n ops (⟨some d, .buildSlice t 1 #[(0, x)], ty, pos, af, none⟩ :: rest) Q f L := by
  have hn' : cs.length = sz := Nat.eq_of_beq_eq_true hn
  have hz' : zs.length = sz := Nat.eq_of_beq_eq_true hz0
  refine S.bs (len := 1) (parts := #[(0, x)]) (l := [(0, v)]) (cs := cs) (by simp [partsL, hx]) hz0 (by rw [Nat.one_mul]; exact hsm) ?_ ?_ (fun b => ?_)
  · unfold fitsL cellsOf
    simp [rowL, hv, hn', Nat.beq_refl]
  · unfold cellsOf
    simp only [List.map_cons, List.map_nil, hv, fillL, rowL, rep, List.append_nil]
    simp [putAt, hn', hz']
  · exact opsS_ent (slO_fold (by rw [hn', Nat.one_mul])) (hk b)
end
end Go.SX
namespace Go.Proofs.YtjidejcehmamkaaDoor
open Go Go.SX
attribute [local irreducible] swp opsS thenS blockS retS CallsS St Ent YieldS anyS drawS
def liftN (n : NV) (r : NA) : NV := if r.kind = 12 then { n with kind := 12 } else r.nv
def planR (n : NV) (M : Nat → Option Obj) (p : Nat) (j : JS) (pl : PA) (L : List HP) (r : Value) (L' : List HP) : Prop := ∃ (ra : Option Addr) (rc : Nat) (ma : Option Addr) (mc : Nat) (ea : Option Addr) (ec : Nat) (M' : Nat → Option Obj),
  r = .agg #[.slice ra pl.rec_.length rc, .slice ma pl.mail.length mc, .slice ea pl.els.length ec] ∧ leM M M' ∧
  L' = slO 39 16 ra pl.rec_.length rc (pl.rec_.flatMap fun r => (liftN n r).cells) :: slO 52 17 ma pl.mail.length mc (pl.mail.flatMap mailC) :: slO 52 17 ea pl.els.length ec (pl.els.flatMap mailC) :: jurH M' p j :: roM M' :: L
abbrev eR : HP := slO 39 16 none 0 0 []
abbrev eM : HP := slO 52 17 none 0 0 []
set_option maxHeartbeats 2000000 in
theorem prepare_spec (n : NV) (M : Nat → Option Obj) (p : Nat) (j : JS) (k : Nat) (L : List HP) (hw : WFK j.v k) (hk : k ≤ 10000) (hn : okN M n) (hN : OkN n) :
    CallsS Tryd.prog 16 [ptrJ p, n.val] (jurH M p j :: roM M :: L) (planR n M p j (prepV j n.abs) L) := by
  unfold prepV
  refine CallsS.of_body Tryd.func16 rfl rfl rfl ?_
  refine Q.r ?_; (repeat (intro b1; refine Q.r ?_))
  refine S.cj p rfl (intent_spec M p j k n.txn _ hw hk) ?_
  rintro _ _ ⟨i, M1, rfl, hl1, hi, hix, rfl⟩
  refine Q.r ?_; (repeat (intro b1; refine Q.r ?_))
  refine swp_jur p (fun v mp md self ps hq => ?_)
  refine Q.dgo [true, true, true, true, true, true, true, true] [] [] [0, 1, 2, 3, 4, 5, 6, 7, 8, 9, 10, 11] ?_
  refine Q.rd ?_; (repeat (intro b1; refine Q.rd ?_))
  refine D.y rfl rfl rfl (by kernel_rfl) (Y.lk true rfl rfl (fun w => Tryd.zeroValue30 w)) ?_
  cases hd : lkL j.done n.txn with
  | some s =>
    rw [if_pos (.inl rfl)]
    dsimp only
    refine Q.rd ?_; (repeat (intro b1; refine Q.rd ?_))
    refine Q.r ?_; (repeat (intro b1; refine Q.r ?_))
    refine Q.dgo [true, true, true, true, true, false, true, true] [8] [] [0, 1, 2, 3, 4, 5, 6, 7, 8, 9, 10, 11] ?_
    refine Q.rd ?_; (repeat (intro b1; refine Q.rd ?_))
    refine Q.r ?_; (repeat (intro b1; refine Q.r ?_))
    refine N.r1 (by apply RV.cellN; rfl; exact RdC.row; rfl; exact RV.nil) ?_ ⟨none, 0, none, 0, none, 0, M1, rfl, hl1, rfl⟩; show Ent _ (eR :: eM :: eM :: jurH M1 p j :: roM M1 :: L); refine Ent.trans (jclose (p := p) (v := v) (sf := self) (dim := j.v.dim) (mp := mp) (md := md) (j := j) (ps := ps) hq rfl) ?_; repeat (first | exact Ent.refl _ | exact Ent.nil | refine Ent.pick ?_ | refine Ent.nilS ?_ | refine Ent.nilM ?_ | refine Ent.drop ?_)
  | none =>
    dsimp only
    refine Q.rd ?_; (repeat (intro b1; refine Q.rd ?_))
    refine Q.r ?_; (repeat (intro b1; refine Q.r ?_))
    refine Q.dgo [true, true, true, true, true, false, true, true] [8] [] [0, 1, 2, 3, 4, 5, 6, 7, 8, 9, 10, 11] ?_
    refine Q.rd ?_; (repeat (intro b1; refine Q.rd ?_))
    refine D.e rfl rfl rfl ?_
    refine S.guard rfl ?_
    refine S.cr rfl (Check_spec j.v.dim n.oa n.oc n.ops _ (hn.mono hl1).rd.o hN.o hN.ov (by have := hw.wf.d1; have := hw.wf.d2; omega)) ?_
    rintro _ _ ⟨rfl, rfl⟩
    by_cases hc : checkV j.v.dim (n.ops.map OV.abs) ≠ 0
    · rw [if_pos (.inr hc)]
      refine Q.r ?_; (repeat (intro b1; refine Q.r ?_))
      refine Q.rd ?_; (repeat (intro b1; refine Q.rd ?_))
      refine Q.r ?_; (repeat (intro b1; refine Q.r ?_))
      refine N.r1 (by apply RV.cellN; rfl; exact RdC.row; rfl; exact RV.nil) ?_ ⟨none, 0, none, 0, none, 0, M1, rfl, hl1, rfl⟩; show Ent _ (eR :: eM :: eM :: jurH M1 p j :: roM M1 :: L); refine Ent.trans (jclose (p := p) (v := v) (sf := self) (dim := j.v.dim) (mp := mp) (md := md) (j := j) (ps := ps) hq rfl) ?_; repeat (first | exact Ent.refl _ | exact Ent.nil | refine Ent.pick ?_ | refine Ent.nilS ?_ | refine Ent.nilM ?_ | refine Ent.drop ?_)
    rw [if_neg (by rintro (h | h); cases h; exact hc h)]
    refine Q.r ?_; (repeat (intro b1; refine Q.r ?_))
    refine Q.rd ?_; (repeat (intro b1; refine Q.rd ?_))
    refine Q.r ?_; (repeat (intro b1; refine Q.r ?_))
    refine swp_ent (jclose (p := p) (v := v) (sf := self) (dim := j.v.dim) (mp := mp) (md := md) (j := j) (ps := ps) hq rfl) ?_
    cases hi2 : (lkL j.v.its n.txn).isSome with
    | true =>
      rw [if_pos rfl]
      refine Q.r ?_; (repeat (intro b1; refine Q.r ?_))
      refine S.cr rfl (vote_spec n.txn 0 _) ?_
      rintro _ _ ⟨rfl, rfl⟩
      refine Q.r ?_; (repeat (intro b1; refine Q.r ?_))
      refine N.r1 (by apply RV.cellN; rfl; exact RdC.row; rfl; exact RV.nil) ?_ ⟨none, 0, some ⟨b1, 0, none⟩, 1, none, 0, M1, rfl, hl1, rfl⟩; show Ent _ (eR :: slO 52 17 (some ⟨b1, 0, none⟩) 1 1 (mailC (voteN n.txn 0)) :: eM :: jurH M1 p j :: roM M1 :: L); refine Ent.nilS ?_; refine Ent.trans ?_ (slO_fold rfl); repeat (first | exact Ent.refl _ | exact Ent.nil | refine Ent.pick ?_ | refine Ent.nilS ?_ | refine Ent.nilM ?_ | refine Ent.drop ?_)
    | false =>
      rw [if_neg (by decide)]
      refine Q.r ?_; (repeat (intro b1; refine Q.r ?_))
      refine S.cj p rfl (taken_spec M1 p j k n.oa n.oc n.ops _ hw hk (hn.mono hl1).o.1 hN.o) ?_
      rintro _ _ ⟨M2, rfl, hl2, rfl⟩
      cases ht : takenV j.v (n.ops.map OV.abs) with
      | true =>
        rw [if_pos rfl]
        refine Q.r ?_; (repeat (intro b1; refine Q.r ?_))
        refine S.cr rfl (vote_spec n.txn 11 _) ?_
        rintro _ _ ⟨rfl, rfl⟩
        refine Q.r ?_; (repeat (intro b1; refine Q.r ?_))
        refine N.r1 (by apply RV.cellN; rfl; exact RdC.row; rfl; exact RV.nil) ?_ ⟨none, 0, some ⟨b1, 0, none⟩, 1, none, 0, M2, rfl, hl1.trans hl2, rfl⟩; show Ent _ (eR :: slO 52 17 (some ⟨b1, 0, none⟩) 1 1 (mailC (voteN n.txn 11)) :: eM :: jurH M2 p j :: roM M2 :: L); refine Ent.nilS ?_; refine Ent.trans ?_ (slO_fold rfl); repeat (first | exact Ent.refl _ | exact Ent.nil | refine Ent.pick ?_ | refine Ent.nilS ?_ | refine Ent.nilM ?_ | refine Ent.drop ?_)
      | false =>
        rw [if_neg (by decide)]
        refine Q.r ?_; (repeat (intro b1; refine Q.r ?_))
        refine Q.dgo [true, false, false, false, false, true] [1, 4, 5, 8, 9, 11] [] [0, 2, 3, 6, 7, 99999, 0, 0, 0, 0, 0, 0] ?_
        refine Q.rd ?_; (repeat (intro b1; refine Q.rd ?_))
        refine D.two 1 4 [4, 99999, 0, 0, 0, 0] [99999, 0, 0, 0, 0, 0] (by kernel_rfl) rfl rfl rfl rfl (by kernel_rfl) (by kernel_rfl) ?_ ?_
        · refine S.bs1 (cs := ({ n with kind := 12 } : NV).cells) rfl rfl rfl rfl rfl (fun bR => ?_)
          refine Q.r ?_; (repeat (intro b1; refine Q.r ?_))
          refine D.e rfl rfl rfl ?_
          refine S.cr rfl (vote_spec n.txn 0 _) ?_
          rintro _ _ ⟨rfl, rfl⟩
          refine Q.r ?_; (repeat (intro b1; refine Q.r ?_))
          refine D.two 5 8 [8, 9, 10, 11] [99999, 0, 0, 0] (by kernel_rfl) rfl rfl rfl rfl (by kernel_rfl) (by kernel_rfl) ?_ ?_
          · refine S.bs1 (cs := mailC (voteN n.txn 0)) rfl rfl rfl rfl rfl (fun bM => ?_)
            refine Q.r ?_; (repeat (intro b1; refine Q.r ?_))
            refine D.e rfl rfl rfl ?_
            refine S.cr rfl (vote_spec n.txn 8 _) ?_
            rintro _ _ ⟨rfl, rfl⟩
            refine Q.r ?_; (repeat (intro b1; refine Q.r ?_))
            refine D.e rfl rfl rfl ?_
            refine S.bs1 (cs := mailC (voteN n.txn 8)) rfl rfl rfl rfl rfl (fun bE => ?_)
            refine Q.r ?_; (repeat (intro b1; refine Q.r ?_))
            refine Q.rd ?_; (repeat (intro b1; refine Q.rd ?_))
            refine Q.r ?_; (repeat (intro b1; refine Q.r ?_))
            refine N.r1 (by apply RV.cellN; rfl; exact RdC.row; rfl; exact RV.nil) ?_ ⟨some ⟨bR, 0, none⟩, 1, some ⟨bM, 0, none⟩, 1, some ⟨bE, 0, none⟩, 1, M2, rfl, hl1.trans hl2, rfl⟩; show Ent _ (slO 39 16 (some ⟨bR, 0, none⟩) 1 1 ({ n with kind := 12 } : NV).cells :: slO 52 17 (some ⟨bM, 0, none⟩) 1 1 (mailC (voteN n.txn 0)) :: slO 52 17 (some ⟨bE, 0, none⟩) 1 1 (mailC (voteN n.txn 8)) :: jurH M2 p j :: roM M2 :: L); repeat (first | exact Ent.refl _ | exact Ent.nil | refine Ent.pick ?_ | refine Ent.nilS ?_ | refine Ent.nilM ?_ | refine Ent.drop ?_)
          · refine S.cr rfl (vote_spec n.txn 8 _) ?_
            rintro _ _ ⟨rfl, rfl⟩
            refine Q.r ?_; (repeat (intro b1; refine Q.r ?_))
            refine D.two 5 9 [9, 10, 11] [5, 10, 11] (by kernel_rfl) rfl rfl rfl rfl (by kernel_rfl) (by kernel_rfl) ?_ ?_
            · refine S.bs1 (cs := mailC (voteN n.txn 0)) rfl rfl rfl rfl rfl (fun bM => ?_)
              refine Q.r ?_; (repeat (intro b1; refine Q.r ?_))
              refine D.e rfl rfl rfl ?_
              refine S.bs1 (cs := mailC (voteN n.txn 8)) rfl rfl rfl rfl rfl (fun bE => ?_)
              refine Q.r ?_; (repeat (intro b1; refine Q.r ?_))
              refine Q.rd ?_; (repeat (intro b1; refine Q.rd ?_))
              refine Q.r ?_; (repeat (intro b1; refine Q.r ?_))
              refine N.r1 (by apply RV.cellN; rfl; exact RdC.row; rfl; exact RV.nil) ?_ ⟨some ⟨bR, 0, none⟩, 1, some ⟨bM, 0, none⟩, 1, some ⟨bE, 0, none⟩, 1, M2, rfl, hl1.trans hl2, rfl⟩; show Ent _ (slO 39 16 (some ⟨bR, 0, none⟩) 1 1 ({ n with kind := 12 } : NV).cells :: slO 52 17 (some ⟨bM, 0, none⟩) 1 1 (mailC (voteN n.txn 0)) :: slO 52 17 (some ⟨bE, 0, none⟩) 1 1 (mailC (voteN n.txn 8)) :: jurH M2 p j :: roM M2 :: L); repeat (first | exact Ent.refl _ | exact Ent.nil | refine Ent.pick ?_ | refine Ent.nilS ?_ | refine Ent.nilM ?_ | refine Ent.drop ?_)
            · refine S.bs1 (cs := mailC (voteN n.txn 8)) rfl rfl rfl rfl rfl (fun bE => ?_)
              refine Q.r ?_; (repeat (intro b1; refine Q.r ?_))
              refine D.e rfl rfl rfl ?_
              refine S.bs1 (cs := mailC (voteN n.txn 0)) rfl rfl rfl rfl rfl (fun bM => ?_)
              refine Q.r ?_; (repeat (intro b1; refine Q.r ?_))
              refine Q.rd ?_; (repeat (intro b1; refine Q.rd ?_))
              refine Q.r ?_; (repeat (intro b1; refine Q.r ?_))
              refine N.r1 (by apply RV.cellN; rfl; exact RdC.row; rfl; exact RV.nil) ?_ ⟨some ⟨bR, 0, none⟩, 1, some ⟨bM, 0, none⟩, 1, some ⟨bE, 0, none⟩, 1, M2, rfl, hl1.trans hl2, rfl⟩; show Ent _ (slO 39 16 (some ⟨bR, 0, none⟩) 1 1 ({ n with kind := 12 } : NV).cells :: slO 52 17 (some ⟨bM, 0, none⟩) 1 1 (mailC (voteN n.txn 0)) :: slO 52 17 (some ⟨bE, 0, none⟩) 1 1 (mailC (voteN n.txn 8)) :: jurH M2 p j :: roM M2 :: L); repeat (first | exact Ent.refl _ | exact Ent.nil | refine Ent.pick ?_ | refine Ent.nilS ?_ | refine Ent.nilM ?_ | refine Ent.drop ?_)
        · refine S.cr rfl (vote_spec n.txn 0 _) ?_
          rintro _ _ ⟨rfl, rfl⟩
          refine Q.r ?_; (repeat (intro b1; refine Q.r ?_))
          refine D.three 1 5 8 [99999, 0, 0, 0, 0] [99999, 0, 0, 0, 0] [99999, 0, 0, 0, 0] (by kernel_rfl) rfl rfl rfl rfl rfl rfl (by kernel_rfl) (by kernel_rfl) (by kernel_rfl) ?_ ?_ ?_
          · refine S.bs1 (cs := ({ n with kind := 12 } : NV).cells) rfl rfl rfl rfl rfl (fun bR => ?_)
            refine Q.r ?_; (repeat (intro b1; refine Q.r ?_))
            refine D.two 5 8 [8, 9, 10, 11] [99999, 0, 0, 0] (by kernel_rfl) rfl rfl rfl rfl (by kernel_rfl) (by kernel_rfl) ?_ ?_
            · refine S.bs1 (cs := mailC (voteN n.txn 0)) rfl rfl rfl rfl rfl (fun bM => ?_)
              refine Q.r ?_; (repeat (intro b1; refine Q.r ?_))
              refine D.e rfl rfl rfl ?_
              refine S.cr rfl (vote_spec n.txn 8 _) ?_
              rintro _ _ ⟨rfl, rfl⟩
              refine Q.r ?_; (repeat (intro b1; refine Q.r ?_))
              refine D.e rfl rfl rfl ?_
              refine S.bs1 (cs := mailC (voteN n.txn 8)) rfl rfl rfl rfl rfl (fun bE => ?_)
              refine Q.r ?_; (repeat (intro b1; refine Q.r ?_))
              refine Q.rd ?_; (repeat (intro b1; refine Q.rd ?_))
              refine Q.r ?_; (repeat (intro b1; refine Q.r ?_))
              refine N.r1 (by apply RV.cellN; rfl; exact RdC.row; rfl; exact RV.nil) ?_ ⟨some ⟨bR, 0, none⟩, 1, some ⟨bM, 0, none⟩, 1, some ⟨bE, 0, none⟩, 1, M2, rfl, hl1.trans hl2, rfl⟩; show Ent _ (slO 39 16 (some ⟨bR, 0, none⟩) 1 1 ({ n with kind := 12 } : NV).cells :: slO 52 17 (some ⟨bM, 0, none⟩) 1 1 (mailC (voteN n.txn 0)) :: slO 52 17 (some ⟨bE, 0, none⟩) 1 1 (mailC (voteN n.txn 8)) :: jurH M2 p j :: roM M2 :: L); repeat (first | exact Ent.refl _ | exact Ent.nil | refine Ent.pick ?_ | refine Ent.nilS ?_ | refine Ent.nilM ?_ | refine Ent.drop ?_)
            · refine S.cr rfl (vote_spec n.txn 8 _) ?_
              rintro _ _ ⟨rfl, rfl⟩
              refine Q.r ?_; (repeat (intro b1; refine Q.r ?_))
              refine D.two 5 9 [9, 10, 11] [5, 10, 11] (by kernel_rfl) rfl rfl rfl rfl (by kernel_rfl) (by kernel_rfl) ?_ ?_
              · refine S.bs1 (cs := mailC (voteN n.txn 0)) rfl rfl rfl rfl rfl (fun bM => ?_)
                refine Q.r ?_; (repeat (intro b1; refine Q.r ?_))
                refine D.e rfl rfl rfl ?_
                refine S.bs1 (cs := mailC (voteN n.txn 8)) rfl rfl rfl rfl rfl (fun bE => ?_)
                refine Q.r ?_; (repeat (intro b1; refine Q.r ?_))
                refine Q.rd ?_; (repeat (intro b1; refine Q.rd ?_))
                refine Q.r ?_; (repeat (intro b1; refine Q.r ?_))
                refine N.r1 (by apply RV.cellN; rfl; exact RdC.row; rfl; exact RV.nil) ?_ ⟨some ⟨bR, 0, none⟩, 1, some ⟨bM, 0, none⟩, 1, some ⟨bE, 0, none⟩, 1, M2, rfl, hl1.trans hl2, rfl⟩; show Ent _ (slO 39 16 (some ⟨bR, 0, none⟩) 1 1 ({ n with kind := 12 } : NV).cells :: slO 52 17 (some ⟨bM, 0, none⟩) 1 1 (mailC (voteN n.txn 0)) :: slO 52 17 (some ⟨bE, 0, none⟩) 1 1 (mailC (voteN n.txn 8)) :: jurH M2 p j :: roM M2 :: L); repeat (first | exact Ent.refl _ | exact Ent.nil | refine Ent.pick ?_ | refine Ent.nilS ?_ | refine Ent.nilM ?_ | refine Ent.drop ?_)
              · refine S.bs1 (cs := mailC (voteN n.txn 8)) rfl rfl rfl rfl rfl (fun bE => ?_)
                refine Q.r ?_; (repeat (intro b1; refine Q.r ?_))
                refine D.e rfl rfl rfl ?_
                refine S.bs1 (cs := mailC (voteN n.txn 0)) rfl rfl rfl rfl rfl (fun bM => ?_)
                refine Q.r ?_; (repeat (intro b1; refine Q.r ?_))
                refine Q.rd ?_; (repeat (intro b1; refine Q.rd ?_))
                refine Q.r ?_; (repeat (intro b1; refine Q.r ?_))
                refine N.r1 (by apply RV.cellN; rfl; exact RdC.row; rfl; exact RV.nil) ?_ ⟨some ⟨bR, 0, none⟩, 1, some ⟨bM, 0, none⟩, 1, some ⟨bE, 0, none⟩, 1, M2, rfl, hl1.trans hl2, rfl⟩; show Ent _ (slO 39 16 (some ⟨bR, 0, none⟩) 1 1 ({ n with kind := 12 } : NV).cells :: slO 52 17 (some ⟨bM, 0, none⟩) 1 1 (mailC (voteN n.txn 0)) :: slO 52 17 (some ⟨bE, 0, none⟩) 1 1 (mailC (voteN n.txn 8)) :: jurH M2 p j :: roM M2 :: L); repeat (first | exact Ent.refl _ | exact Ent.nil | refine Ent.pick ?_ | refine Ent.nilS ?_ | refine Ent.nilM ?_ | refine Ent.drop ?_)
          · refine S.bs1 (cs := mailC (voteN n.txn 0)) rfl rfl rfl rfl rfl (fun bM => ?_)
            refine Q.r ?_; (repeat (intro b1; refine Q.r ?_))
            refine D.two 1 8 [8, 9, 10, 11] [99999, 0, 0, 0] (by kernel_rfl) rfl rfl rfl rfl (by kernel_rfl) (by kernel_rfl) ?_ ?_
            · refine S.bs1 (cs := ({ n with kind := 12 } : NV).cells) rfl rfl rfl rfl rfl (fun bR => ?_)
              refine Q.r ?_; (repeat (intro b1; refine Q.r ?_))
              refine D.e rfl rfl rfl ?_
              refine S.cr rfl (vote_spec n.txn 8 _) ?_
              rintro _ _ ⟨rfl, rfl⟩
              refine Q.r ?_; (repeat (intro b1; refine Q.r ?_))
              refine D.e rfl rfl rfl ?_
              refine S.bs1 (cs := mailC (voteN n.txn 8)) rfl rfl rfl rfl rfl (fun bE => ?_)
              refine Q.r ?_; (repeat (intro b1; refine Q.r ?_))
              refine Q.rd ?_; (repeat (intro b1; refine Q.rd ?_))
              refine Q.r ?_; (repeat (intro b1; refine Q.r ?_))
              refine N.r1 (by apply RV.cellN; rfl; exact RdC.row; rfl; exact RV.nil) ?_ ⟨some ⟨bR, 0, none⟩, 1, some ⟨bM, 0, none⟩, 1, some ⟨bE, 0, none⟩, 1, M2, rfl, hl1.trans hl2, rfl⟩; show Ent _ (slO 39 16 (some ⟨bR, 0, none⟩) 1 1 ({ n with kind := 12 } : NV).cells :: slO 52 17 (some ⟨bM, 0, none⟩) 1 1 (mailC (voteN n.txn 0)) :: slO 52 17 (some ⟨bE, 0, none⟩) 1 1 (mailC (voteN n.txn 8)) :: jurH M2 p j :: roM M2 :: L); repeat (first | exact Ent.refl _ | exact Ent.nil | refine Ent.pick ?_ | refine Ent.nilS ?_ | refine Ent.nilM ?_ | refine Ent.drop ?_)
            · refine S.cr rfl (vote_spec n.txn 8 _) ?_
              rintro _ _ ⟨rfl, rfl⟩
              refine Q.r ?_; (repeat (intro b1; refine Q.r ?_))
              refine D.two 1 9 [9, 10, 11] [1, 10, 11] (by kernel_rfl) rfl rfl rfl rfl (by kernel_rfl) (by kernel_rfl) ?_ ?_
              · refine S.bs1 (cs := ({ n with kind := 12 } : NV).cells) rfl rfl rfl rfl rfl (fun bR => ?_)
                refine Q.r ?_; (repeat (intro b1; refine Q.r ?_))
                refine D.e rfl rfl rfl ?_
                refine S.bs1 (cs := mailC (voteN n.txn 8)) rfl rfl rfl rfl rfl (fun bE => ?_)
                refine Q.r ?_; (repeat (intro b1; refine Q.r ?_))
                refine Q.rd ?_; (repeat (intro b1; refine Q.rd ?_))
                refine Q.r ?_; (repeat (intro b1; refine Q.r ?_))
                refine N.r1 (by apply RV.cellN; rfl; exact RdC.row; rfl; exact RV.nil) ?_ ⟨some ⟨bR, 0, none⟩, 1, some ⟨bM, 0, none⟩, 1, some ⟨bE, 0, none⟩, 1, M2, rfl, hl1.trans hl2, rfl⟩; show Ent _ (slO 39 16 (some ⟨bR, 0, none⟩) 1 1 ({ n with kind := 12 } : NV).cells :: slO 52 17 (some ⟨bM, 0, none⟩) 1 1 (mailC (voteN n.txn 0)) :: slO 52 17 (some ⟨bE, 0, none⟩) 1 1 (mailC (voteN n.txn 8)) :: jurH M2 p j :: roM M2 :: L); repeat (first | exact Ent.refl _ | exact Ent.nil | refine Ent.pick ?_ | refine Ent.nilS ?_ | refine Ent.nilM ?_ | refine Ent.drop ?_)
              · refine S.bs1 (cs := mailC (voteN n.txn 8)) rfl rfl rfl rfl rfl (fun bE => ?_)
                refine Q.r ?_; (repeat (intro b1; refine Q.r ?_))
                refine D.e rfl rfl rfl ?_
                refine S.bs1 (cs := ({ n with kind := 12 } : NV).cells) rfl rfl rfl rfl rfl (fun bR => ?_)
                refine Q.r ?_; (repeat (intro b1; refine Q.r ?_))
                refine Q.rd ?_; (repeat (intro b1; refine Q.rd ?_))
                refine Q.r ?_; (repeat (intro b1; refine Q.r ?_))
                refine N.r1 (by apply RV.cellN; rfl; exact RdC.row; rfl; exact RV.nil) ?_ ⟨some ⟨bR, 0, none⟩, 1, some ⟨bM, 0, none⟩, 1, some ⟨bE, 0, none⟩, 1, M2, rfl, hl1.trans hl2, rfl⟩; show Ent _ (slO 39 16 (some ⟨bR, 0, none⟩) 1 1 ({ n with kind := 12 } : NV).cells :: slO 52 17 (some ⟨bM, 0, none⟩) 1 1 (mailC (voteN n.txn 0)) :: slO 52 17 (some ⟨bE, 0, none⟩) 1 1 (mailC (voteN n.txn 8)) :: jurH M2 p j :: roM M2 :: L); repeat (first | exact Ent.refl _ | exact Ent.nil | refine Ent.pick ?_ | refine Ent.nilS ?_ | refine Ent.nilM ?_ | refine Ent.drop ?_)
          · refine S.cr rfl (vote_spec n.txn 8 _) ?_
            rintro _ _ ⟨rfl, rfl⟩
            refine Q.r ?_; (repeat (intro b1; refine Q.r ?_))
            refine D.three 1 5 9 [99999, 0, 0, 0] [99999, 0, 0, 0] [99999, 0, 0, 0] (by kernel_rfl) rfl rfl rfl rfl rfl rfl (by kernel_rfl) (by kernel_rfl) (by kernel_rfl) ?_ ?_ ?_
            · refine S.bs1 (cs := ({ n with kind := 12 } : NV).cells) rfl rfl rfl rfl rfl (fun bR => ?_)
              refine Q.r ?_; (repeat (intro b1; refine Q.r ?_))
              refine D.two 5 9 [9, 10, 11] [5, 10, 11] (by kernel_rfl) rfl rfl rfl rfl (by kernel_rfl) (by kernel_rfl) ?_ ?_
              · refine S.bs1 (cs := mailC (voteN n.txn 0)) rfl rfl rfl rfl rfl (fun bM => ?_)
                refine Q.r ?_; (repeat (intro b1; refine Q.r ?_))
                refine D.e rfl rfl rfl ?_
                refine S.bs1 (cs := mailC (voteN n.txn 8)) rfl rfl rfl rfl rfl (fun bE => ?_)
                refine Q.r ?_; (repeat (intro b1; refine Q.r ?_))
                refine Q.rd ?_; (repeat (intro b1; refine Q.rd ?_))
                refine Q.r ?_; (repeat (intro b1; refine Q.r ?_))
                refine N.r1 (by apply RV.cellN; rfl; exact RdC.row; rfl; exact RV.nil) ?_ ⟨some ⟨bR, 0, none⟩, 1, some ⟨bM, 0, none⟩, 1, some ⟨bE, 0, none⟩, 1, M2, rfl, hl1.trans hl2, rfl⟩; show Ent _ (slO 39 16 (some ⟨bR, 0, none⟩) 1 1 ({ n with kind := 12 } : NV).cells :: slO 52 17 (some ⟨bM, 0, none⟩) 1 1 (mailC (voteN n.txn 0)) :: slO 52 17 (some ⟨bE, 0, none⟩) 1 1 (mailC (voteN n.txn 8)) :: jurH M2 p j :: roM M2 :: L); repeat (first | exact Ent.refl _ | exact Ent.nil | refine Ent.pick ?_ | refine Ent.nilS ?_ | refine Ent.nilM ?_ | refine Ent.drop ?_)
              · refine S.bs1 (cs := mailC (voteN n.txn 8)) rfl rfl rfl rfl rfl (fun bE => ?_)
                refine Q.r ?_; (repeat (intro b1; refine Q.r ?_))
                refine D.e rfl rfl rfl ?_
                refine S.bs1 (cs := mailC (voteN n.txn 0)) rfl rfl rfl rfl rfl (fun bM => ?_)
                refine Q.r ?_; (repeat (intro b1; refine Q.r ?_))
                refine Q.rd ?_; (repeat (intro b1; refine Q.rd ?_))
                refine Q.r ?_; (repeat (intro b1; refine Q.r ?_))
                refine N.r1 (by apply RV.cellN; rfl; exact RdC.row; rfl; exact RV.nil) ?_ ⟨some ⟨bR, 0, none⟩, 1, some ⟨bM, 0, none⟩, 1, some ⟨bE, 0, none⟩, 1, M2, rfl, hl1.trans hl2, rfl⟩; show Ent _ (slO 39 16 (some ⟨bR, 0, none⟩) 1 1 ({ n with kind := 12 } : NV).cells :: slO 52 17 (some ⟨bM, 0, none⟩) 1 1 (mailC (voteN n.txn 0)) :: slO 52 17 (some ⟨bE, 0, none⟩) 1 1 (mailC (voteN n.txn 8)) :: jurH M2 p j :: roM M2 :: L); repeat (first | exact Ent.refl _ | exact Ent.nil | refine Ent.pick ?_ | refine Ent.nilS ?_ | refine Ent.nilM ?_ | refine Ent.drop ?_)
            · refine S.bs1 (cs := mailC (voteN n.txn 0)) rfl rfl rfl rfl rfl (fun bM => ?_)
              refine Q.r ?_; (repeat (intro b1; refine Q.r ?_))
              refine D.two 1 9 [9, 10, 11] [1, 10, 11] (by kernel_rfl) rfl rfl rfl rfl (by kernel_rfl) (by kernel_rfl) ?_ ?_
              · refine S.bs1 (cs := ({ n with kind := 12 } : NV).cells) rfl rfl rfl rfl rfl (fun bR => ?_)
                refine Q.r ?_; (repeat (intro b1; refine Q.r ?_))
                refine D.e rfl rfl rfl ?_
                refine S.bs1 (cs := mailC (voteN n.txn 8)) rfl rfl rfl rfl rfl (fun bE => ?_)
                refine Q.r ?_; (repeat (intro b1; refine Q.r ?_))
                refine Q.rd ?_; (repeat (intro b1; refine Q.rd ?_))
                refine Q.r ?_; (repeat (intro b1; refine Q.r ?_))
                refine N.r1 (by apply RV.cellN; rfl; exact RdC.row; rfl; exact RV.nil) ?_ ⟨some ⟨bR, 0, none⟩, 1, some ⟨bM, 0, none⟩, 1, some ⟨bE, 0, none⟩, 1, M2, rfl, hl1.trans hl2, rfl⟩; show Ent _ (slO 39 16 (some ⟨bR, 0, none⟩) 1 1 ({ n with kind := 12 } : NV).cells :: slO 52 17 (some ⟨bM, 0, none⟩) 1 1 (mailC (voteN n.txn 0)) :: slO 52 17 (some ⟨bE, 0, none⟩) 1 1 (mailC (voteN n.txn 8)) :: jurH M2 p j :: roM M2 :: L); repeat (first | exact Ent.refl _ | exact Ent.nil | refine Ent.pick ?_ | refine Ent.nilS ?_ | refine Ent.nilM ?_ | refine Ent.drop ?_)
              · refine S.bs1 (cs := mailC (voteN n.txn 8)) rfl rfl rfl rfl rfl (fun bE => ?_)
                refine Q.r ?_; (repeat (intro b1; refine Q.r ?_))
                refine D.e rfl rfl rfl ?_
                refine S.bs1 (cs := ({ n with kind := 12 } : NV).cells) rfl rfl rfl rfl rfl (fun bR => ?_)
                refine Q.r ?_; (repeat (intro b1; refine Q.r ?_))
                refine Q.rd ?_; (repeat (intro b1; refine Q.rd ?_))
                refine Q.r ?_; (repeat (intro b1; refine Q.r ?_))
                refine N.r1 (by apply RV.cellN; rfl; exact RdC.row; rfl; exact RV.nil) ?_ ⟨some ⟨bR, 0, none⟩, 1, some ⟨bM, 0, none⟩, 1, some ⟨bE, 0, none⟩, 1, M2, rfl, hl1.trans hl2, rfl⟩; show Ent _ (slO 39 16 (some ⟨bR, 0, none⟩) 1 1 ({ n with kind := 12 } : NV).cells :: slO 52 17 (some ⟨bM, 0, none⟩) 1 1 (mailC (voteN n.txn 0)) :: slO 52 17 (some ⟨bE, 0, none⟩) 1 1 (mailC (voteN n.txn 8)) :: jurH M2 p j :: roM M2 :: L); repeat (first | exact Ent.refl _ | exact Ent.nil | refine Ent.pick ?_ | refine Ent.nilS ?_ | refine Ent.nilM ?_ | refine Ent.drop ?_)
            · refine S.bs1 (cs := mailC (voteN n.txn 8)) rfl rfl rfl rfl rfl (fun bE => ?_)
              refine Q.r ?_; (repeat (intro b1; refine Q.r ?_))
              refine D.two 1 5 [5, 10, 11] [1, 10, 11] (by kernel_rfl) rfl rfl rfl rfl (by kernel_rfl) (by kernel_rfl) ?_ ?_
              · refine S.bs1 (cs := ({ n with kind := 12 } : NV).cells) rfl rfl rfl rfl rfl (fun bR => ?_)
                refine Q.r ?_; (repeat (intro b1; refine Q.r ?_))
                refine D.e rfl rfl rfl ?_
                refine S.bs1 (cs := mailC (voteN n.txn 0)) rfl rfl rfl rfl rfl (fun bM => ?_)
                refine Q.r ?_; (repeat (intro b1; refine Q.r ?_))
                refine Q.rd ?_; (repeat (intro b1; refine Q.rd ?_))
                refine Q.r ?_; (repeat (intro b1; refine Q.r ?_))
                refine N.r1 (by apply RV.cellN; rfl; exact RdC.row; rfl; exact RV.nil) ?_ ⟨some ⟨bR, 0, none⟩, 1, some ⟨bM, 0, none⟩, 1, some ⟨bE, 0, none⟩, 1, M2, rfl, hl1.trans hl2, rfl⟩; show Ent _ (slO 39 16 (some ⟨bR, 0, none⟩) 1 1 ({ n with kind := 12 } : NV).cells :: slO 52 17 (some ⟨bM, 0, none⟩) 1 1 (mailC (voteN n.txn 0)) :: slO 52 17 (some ⟨bE, 0, none⟩) 1 1 (mailC (voteN n.txn 8)) :: jurH M2 p j :: roM M2 :: L); repeat (first | exact Ent.refl _ | exact Ent.nil | refine Ent.pick ?_ | refine Ent.nilS ?_ | refine Ent.nilM ?_ | refine Ent.drop ?_)
              · refine S.bs1 (cs := mailC (voteN n.txn 0)) rfl rfl rfl rfl rfl (fun bM => ?_)
                refine Q.r ?_; (repeat (intro b1; refine Q.r ?_))
                refine D.e rfl rfl rfl ?_
                refine S.bs1 (cs := ({ n with kind := 12 } : NV).cells) rfl rfl rfl rfl rfl (fun bR => ?_)
                refine Q.r ?_; (repeat (intro b1; refine Q.r ?_))
                refine Q.rd ?_; (repeat (intro b1; refine Q.rd ?_))
                refine Q.r ?_; (repeat (intro b1; refine Q.r ?_))
                refine N.r1 (by apply RV.cellN; rfl; exact RdC.row; rfl; exact RV.nil) ?_ ⟨some ⟨bR, 0, none⟩, 1, some ⟨bM, 0, none⟩, 1, some ⟨bE, 0, none⟩, 1, M2, rfl, hl1.trans hl2, rfl⟩; show Ent _ (slO 39 16 (some ⟨bR, 0, none⟩) 1 1 ({ n with kind := 12 } : NV).cells :: slO 52 17 (some ⟨bM, 0, none⟩) 1 1 (mailC (voteN n.txn 0)) :: slO 52 17 (some ⟨bE, 0, none⟩) 1 1 (mailC (voteN n.txn 8)) :: jurH M2 p j :: roM M2 :: L); repeat (first | exact Ent.refl _ | exact Ent.nil | refine Ent.pick ?_ | refine Ent.nilS ?_ | refine Ent.nilM ?_ | refine Ent.drop ?_)
end Go.Proofs.YtjidejcehmamkaaDoor
/- The juror: decide. No condition. -/
namespace Go.Proofs.YtjidejcehmamkaaDoor
open Go Go.SX
attribute [local irreducible] swp opsS thenS blockS retS CallsS St Ent YieldS anyS drawS
set_option maxHeartbeats 2000000 in
theorem decide_spec (n : NV) (M : Nat → Option Obj) (p : Nat) (j : JS) (k : Nat) (fr : Int) (L : List HP) (hw : WFK j.v k) (hk : k ≤ 10000) (hne : ∀ c ∈ j.v.ch, 0 < c.2.length) :
    CallsS Tryd.prog 17 [ptrJ p, .int .i64 fr, n.val] (jurH M p j :: roM M :: L) (planR n M p j (deciV j fr n.abs) L) := by
  unfold deciV
  refine CallsS.of_body Tryd.func17 rfl rfl rfl ?_
  refine Q.r ?_; (repeat (intro b1; refine Q.r ?_))
  refine S.cj p rfl (intent_spec M p j k n.txn _ hw hk) ?_
  rintro _ _ ⟨i, M1, rfl, hl1, hi, hix, rfl⟩
  refine Q.r ?_; (repeat (intro b1; refine Q.r ?_))
  refine swp_jur p (fun v mp md self ps hq => ?_)
  refine Q.dgo [true, true, true, true, true, true, true, true] [] [] [0, 1, 2, 3, 4, 5, 6, 7, 8, 9, 10, 11] ?_
  refine Q.rd ?_; (repeat (intro b1; refine Q.rd ?_))
  refine D.y rfl rfl rfl (by kernel_rfl) (Y.lk true rfl rfl (fun w => Tryd.zeroValue30 w)) ?_
  by_cases hc : n.code ≠ 0
  · rw [if_pos hc]
    cases hd : lkL j.done n.txn with
    | some s =>
      dsimp only
      refine Q.rd ?_; (repeat (intro b1; refine Q.rd ?_))
      cases hi2 : (lkL j.v.its n.txn).isSome with
      | false =>
        rw [if_neg (by rintro ⟨h, _⟩; cases h)]
        refine Q.r ?_; (repeat (intro b1; refine Q.r ?_))
        refine N.r1 (by apply RV.cellN; rfl; exact RdC.row; rfl; exact RV.nil) ?_ ⟨none, 0, none, 0, none, 0, M1, rfl, hl1, rfl⟩; show Ent _ (eR :: eM :: eM :: jurH M1 p j :: roM M1 :: L); refine Ent.trans (jclose (p := p) (v := v) (sf := self) (dim := j.v.dim) (mp := mp) (md := md) (j := j) (ps := ps) hq rfl) ?_; repeat (first | exact Ent.refl _ | exact Ent.nil | refine Ent.pick ?_ | refine Ent.nilS ?_ | refine Ent.nilM ?_ | refine Ent.drop ?_)
      | true =>
        by_cases hf : fr = 0
        · rw [if_pos ⟨rfl, hf⟩]
          refine Q.r ?_; (repeat (intro b1; refine Q.r ?_))
          refine N.r1 (by apply RV.cellN; rfl; exact RdC.row; rfl; exact RV.nil) ?_ ⟨some ⟨b1, 0, none⟩, 1, none, 0, none, 0, M1, rfl, hl1, rfl⟩; show Ent _ (slO 39 16 (some ⟨b1, 0, none⟩) 1 1 (aboN n.txn).nv.cells :: eM :: eM :: jurH M1 p j :: roM M1 :: L); refine Ent.trans ?_ (slO_fold rfl); refine Ent.trans (jclose (p := p) (v := v) (sf := self) (dim := j.v.dim) (mp := mp) (md := md) (j := j) (ps := ps) hq rfl) ?_; repeat (first | exact Ent.refl _ | exact Ent.nil | refine Ent.pick ?_ | refine Ent.nilS ?_ | refine Ent.nilM ?_ | refine Ent.drop ?_)
        · rw [if_neg (fun h => hf h.2)]
          refine Q.r ?_; (repeat (intro b1; refine Q.r ?_))
          refine N.r1 (by apply RV.cellN; rfl; exact RdC.row; rfl; exact RV.nil) ?_ ⟨none, 0, none, 0, none, 0, M1, rfl, hl1, rfl⟩; show Ent _ (eR :: eM :: eM :: jurH M1 p j :: roM M1 :: L); refine Ent.trans (jclose (p := p) (v := v) (sf := self) (dim := j.v.dim) (mp := mp) (md := md) (j := j) (ps := ps) hq rfl) ?_; repeat (first | exact Ent.refl _ | exact Ent.nil | refine Ent.pick ?_ | refine Ent.nilS ?_ | refine Ent.nilM ?_ | refine Ent.drop ?_)
    | none =>
      dsimp only
      refine Q.rd ?_; (repeat (intro b1; refine Q.rd ?_))
      cases hi2 : (lkL j.v.its n.txn).isSome with
      | false =>
        rw [if_neg (by rintro ⟨h, _⟩; cases h)]
        refine Q.r ?_; (repeat (intro b1; refine Q.r ?_))
        refine N.r1 (by apply RV.cellN; rfl; exact RdC.row; rfl; exact RV.nil) ?_ ⟨none, 0, none, 0, none, 0, M1, rfl, hl1, rfl⟩; show Ent _ (eR :: eM :: eM :: jurH M1 p j :: roM M1 :: L); refine Ent.trans (jclose (p := p) (v := v) (sf := self) (dim := j.v.dim) (mp := mp) (md := md) (j := j) (ps := ps) hq rfl) ?_; repeat (first | exact Ent.refl _ | exact Ent.nil | refine Ent.pick ?_ | refine Ent.nilS ?_ | refine Ent.nilM ?_ | refine Ent.drop ?_)
      | true =>
        by_cases hf : fr = 0
        · rw [if_pos ⟨rfl, hf⟩]
          refine Q.r ?_; (repeat (intro b1; refine Q.r ?_))
          refine N.r1 (by apply RV.cellN; rfl; exact RdC.row; rfl; exact RV.nil) ?_ ⟨some ⟨b1, 0, none⟩, 1, none, 0, none, 0, M1, rfl, hl1, rfl⟩; show Ent _ (slO 39 16 (some ⟨b1, 0, none⟩) 1 1 (aboN n.txn).nv.cells :: eM :: eM :: jurH M1 p j :: roM M1 :: L); refine Ent.trans ?_ (slO_fold rfl); refine Ent.trans (jclose (p := p) (v := v) (sf := self) (dim := j.v.dim) (mp := mp) (md := md) (j := j) (ps := ps) hq rfl) ?_; repeat (first | exact Ent.refl _ | exact Ent.nil | refine Ent.pick ?_ | refine Ent.nilS ?_ | refine Ent.nilM ?_ | refine Ent.drop ?_)
        · rw [if_neg (fun h => hf h.2)]
          refine Q.r ?_; (repeat (intro b1; refine Q.r ?_))
          refine N.r1 (by apply RV.cellN; rfl; exact RdC.row; rfl; exact RV.nil) ?_ ⟨none, 0, none, 0, none, 0, M1, rfl, hl1, rfl⟩; show Ent _ (eR :: eM :: eM :: jurH M1 p j :: roM M1 :: L); refine Ent.trans (jclose (p := p) (v := v) (sf := self) (dim := j.v.dim) (mp := mp) (md := md) (j := j) (ps := ps) hq rfl) ?_; repeat (first | exact Ent.refl _ | exact Ent.nil | refine Ent.pick ?_ | refine Ent.nilS ?_ | refine Ent.nilM ?_ | refine Ent.drop ?_)
  rw [if_neg hc]
  have hc0 : n.code = 0 := Decidable.not_not.1 hc
  cases hd : lkL j.done n.txn with
  | some s =>
    dsimp only
    refine Q.rd ?_; (repeat (intro b1; refine Q.rd ?_))
    by_cases hs : s = n.stamp
    · rw [if_pos hs]
      refine Q.r ?_; (repeat (intro b1; refine Q.r ?_))
      refine N.r1 (by apply RV.cellN; rfl; exact RdC.row; rfl; exact RV.nil) ?_ ⟨none, 0, some ⟨b1, 0, none⟩, 1, none, 0, M1, rfl, hl1, rfl⟩; show Ent _ (eR :: slO 52 17 (some ⟨b1, 0, none⟩) 1 1 (mailC (ackN n.txn)) :: eM :: jurH M1 p j :: roM M1 :: L); refine Ent.nilS ?_; refine Ent.trans ?_ (slO_fold rfl); refine Ent.trans (jclose (p := p) (v := v) (sf := self) (dim := j.v.dim) (mp := mp) (md := md) (j := j) (ps := ps) hq rfl) ?_; repeat (first | exact Ent.refl _ | exact Ent.nil | refine Ent.pick ?_ | refine Ent.nilS ?_ | refine Ent.nilM ?_ | refine Ent.drop ?_)
    · rw [if_neg hs]
      refine Q.r ?_; (repeat (intro b1; refine Q.r ?_))
      refine N.r1 (by apply RV.cellN; rfl; exact RdC.row; rfl; exact RV.nil) ?_ ⟨none, 0, none, 0, none, 0, M1, rfl, hl1, rfl⟩; show Ent _ (eR :: eM :: eM :: jurH M1 p j :: roM M1 :: L); refine Ent.trans (jclose (p := p) (v := v) (sf := self) (dim := j.v.dim) (mp := mp) (md := md) (j := j) (ps := ps) hq rfl) ?_; repeat (first | exact Ent.refl _ | exact Ent.nil | refine Ent.pick ?_ | refine Ent.nilS ?_ | refine Ent.nilM ?_ | refine Ent.drop ?_)
  | none =>
    dsimp only
    refine Q.rd ?_; (repeat (intro b1; refine Q.rd ?_))
    cases hi2 : lkL j.v.its n.txn with
    | none =>
      dsimp only [Option.isSome_none]
      refine Q.r ?_; (repeat (intro b1; refine Q.r ?_))
      refine Q.dgo [true, true, true, true, true, true, true, true] [7, 17] [] [0, 1, 2, 3, 4, 5, 6, 7, 8, 9, 10, 11, 12, 13, 14, 15, 16, 17, 18, 19] ?_
      refine Q.rd ?_; (repeat (intro b1; refine Q.rd ?_))
      refine Q.r ?_; (repeat (intro b1; refine Q.r ?_))
      refine N.r1 (by apply RV.cellN; rfl; exact RdC.row; rfl; exact RV.nil) ?_ ⟨none, 0, none, 0, none, 0, M1, rfl, hl1, rfl⟩; show Ent _ (eR :: eM :: eM :: jurH M1 p j :: roM M1 :: L); refine Ent.trans (jclose (p := p) (v := v) (sf := self) (dim := j.v.dim) (mp := mp) (md := md) (j := j) (ps := ps) hq rfl) ?_; repeat (first | exact Ent.refl _ | exact Ent.nil | refine Ent.pick ?_ | refine Ent.nilS ?_ | refine Ent.nilM ?_ | refine Ent.drop ?_)
    | some x =>
      obtain ⟨hix1, hix2⟩ := hix x hi2
      have hil : i.ops.length ≤ 16 := by
        have := (hw.wf.io _ (lk_memL hi2)).1
        rw [← hix2, List.length_map] at this
        exact this
      dsimp only [Option.isSome_some]
      rw [← hix1, ← hix2]
      refine Q.r ?_; (repeat (intro b1; refine Q.r ?_))
      refine swp_ent (jclose (p := p) (v := v) (sf := self) (dim := j.v.dim) (mp := mp) (md := md) (j := j) (ps := ps) hq rfl) ?_
      generalize b1 = bA
      refine Q.dgo [false, false, true, false, false, true] [7, 17] [] [0, 1, 2, 3, 4, 5, 6, 7, 8, 9, 10, 11, 12, 13, 14, 15, 16, 17, 18, 19] ?_
      refine Q.rd ?_; (repeat (intro b1; refine Q.rd ?_))
      refine D.e rfl rfl rfl ?_
      refine S.guard rfl ?_
      refine S.cjn p rfl (JMark_spec M1 p j _) ?_
      rintro _ _ ⟨rfl, rfl⟩
      by_cases hg : max i.after j.v.mark < n.stamp
      · refine Q.r ?_; (repeat (intro b1; refine Q.r ?_))
        refine Q.rd ?_; (repeat (intro b1; refine Q.rd ?_))
        refine D.e rfl rfl rfl ?_
        refine S.guard rfl ?_
        refine S.cj p rfl (above_spec M1 p j k n.stamp i.a i.c i.ops _ hw hk hne hi.1 (by omega)) ?_
        rintro _ _ ⟨M2, rfl, hl2, rfl⟩
        cases hab : aboveV j.v n.stamp (i.ops.map OV.abs) with
        | true =>
          rw [if_pos ⟨hg, rfl⟩]
          refine Q.r ?_; (repeat (intro b1; refine Q.r ?_))
          refine Q.rd ?_; (repeat (intro b1; refine Q.rd ?_))
          refine Q.r ?_; (repeat (intro b1; refine Q.r ?_))
          refine N.r1 (by apply RV.cellN; rfl; exact RdC.row; rfl; exact RV.nil) ?_ ⟨some ⟨b1, 0, none⟩, 1, some ⟨bA, 0, none⟩, 1, none, 0, M2, rfl, hl1.trans hl2, rfl⟩
          show Ent _ (slO 39 16 (some ⟨b1, 0, none⟩) 1 1 (comN n.txn n.stamp).nv.cells :: slO 52 17 (some ⟨bA, 0, none⟩) 1 1 (mailC (ackN n.txn)) :: eM :: jurH M2 p j :: roM M2 :: L)
          refine Ent.trans ?_ (slO_fold rfl)
          refine Ent.trans ?_ (Ent.cons (slO_fold rfl))
          repeat (first | exact Ent.refl _ | exact Ent.nil | refine Ent.pick ?_ | refine Ent.nilS ?_ | refine Ent.nilM ?_ | refine Ent.drop ?_)
        | false =>
          rw [if_neg (by rintro ⟨_, h⟩; cases h)]
          refine Q.r ?_; (repeat (intro b1; refine Q.r ?_))
          refine Q.rd ?_; (repeat (intro b1; refine Q.rd ?_))
          refine Q.r ?_; (repeat (intro b1; refine Q.r ?_))
          refine N.r1 (by apply RV.cellN; rfl; exact RdC.row; rfl; exact RV.nil) ?_ ⟨none, 0, none, 0, none, 0, M2, rfl, hl1.trans hl2, rfl⟩; show Ent _ (eR :: eM :: eM :: jurH M2 p j :: roM M2 :: L); repeat (first | exact Ent.refl _ | exact Ent.nil | refine Ent.pick ?_ | refine Ent.nilS ?_ | refine Ent.nilM ?_ | refine Ent.drop ?_)
      · rw [if_neg (fun h => hg h.1)]
        refine Q.r ?_; (repeat (intro b1; refine Q.r ?_))
        refine Q.rd ?_; (repeat (intro b1; refine Q.rd ?_))
        refine Q.r ?_; (repeat (intro b1; refine Q.r ?_))
        refine N.r1 (by apply RV.cellN; rfl; exact RdC.row; rfl; exact RV.nil) ?_ ⟨none, 0, none, 0, none, 0, M1, rfl, hl1, rfl⟩; show Ent _ (eR :: eM :: eM :: jurH M1 p j :: roM M1 :: L); repeat (first | exact Ent.refl _ | exact Ent.nil | refine Ent.pick ?_ | refine Ent.nilS ?_ | refine Ent.nilM ?_ | refine Ent.drop ?_)
end Go.Proofs.YtjidejcehmamkaaDoor
/- The juror: Plan. No condition. -/
namespace Go.Proofs.YtjidejcehmamkaaDoor
open Go Go.SX
attribute [local irreducible] swp opsS thenS blockS retS CallsS St Ent YieldS anyS drawS
set_option maxHeartbeats 2000000 in
theorem Plan_spec (n : NV) (M : Nat → Option Obj) (p : Nat) (j : JS) (k : Nat) (fr : Int) (L : List HP) (hw : WFK j.v k) (hk : k ≤ 10000) (hne : ∀ c ∈ j.v.ch, 0 < c.2.length) (hn : okN M n) (hN : OkN n) (hT : TabM M) (h0 : 0 ≤ n.kind ∧ n.kind ≤ 255) :
    CallsS Tryd.prog 7 [ptrJ p, .int .i64 fr, n.val] (jurH M p j :: roM M :: L) (planR n M p j (planV j fr n.abs) L) := by
  unfold planV
  refine CallsS.of_body Tryd.func7 rfl rfl rfl ?_
  refine Q.r ?_; (repeat (intro b1; refine Q.r ?_))
  refine S.cr rfl (NRight_spec n _ hn.rd hN hT.rd h0) ?_
  rintro _ _ ⟨rfl, rfl⟩
  cases hr : rightN n.abs with
  | false =>
    rw [if_pos rfl]
    refine Q.r ?_; (repeat (intro b1; refine Q.r ?_))
    refine N.r1 (by apply RV.cellN; rfl; exact RdC.row; rfl; exact RV.nil) ?_ ⟨none, 0, none, 0, none, 0, M, rfl, leM.refl M, rfl⟩; show Ent _ (eR :: eM :: eM :: jurH M p j :: roM M :: L); repeat (first | exact Ent.refl _ | exact Ent.nil | refine Ent.pick ?_ | refine Ent.nilS ?_ | refine Ent.nilM ?_ | refine Ent.drop ?_)
  | true =>
  rw [if_neg (by decide)]
  by_cases h3 : n.kind = 3
  · rw [if_pos h3]
    by_cases hf : fr = 0
    · rw [if_pos hf]
      refine Q.r ?_; (repeat (intro b1; refine Q.r ?_))
      refine S.cj p rfl (prepare_spec n M p j k _ hw hk hn hN) ?_
      rintro _ _ ⟨ra, rc, ma, mc, ea, ec, M', rfl, hl, rfl⟩
      refine Q.r ?_; (repeat (intro b1; refine Q.r ?_))
      refine N.r1 (by apply RV.cellN; rfl; exact RdC.row; rfl; exact RV.nil) ?_ ⟨ra, rc, ma, mc, ea, ec, M', rfl, hl, rfl⟩
      repeat (first | exact Ent.refl _ | exact Ent.nil | refine Ent.pick ?_ | refine Ent.nilS ?_ | refine Ent.nilM ?_ | refine Ent.drop ?_)
    · rw [if_neg hf]
      refine Q.r ?_; (repeat (intro b1; refine Q.r ?_))
      refine N.r1 (by apply RV.cellN; rfl; exact RdC.row; rfl; exact RV.nil) ?_ ⟨none, 0, none, 0, none, 0, M, rfl, leM.refl M, rfl⟩; show Ent _ (eR :: eM :: eM :: jurH M p j :: roM M :: L); repeat (first | exact Ent.refl _ | exact Ent.nil | refine Ent.pick ?_ | refine Ent.nilS ?_ | refine Ent.nilM ?_ | refine Ent.drop ?_)
  rw [if_neg h3]
  by_cases h5 : n.kind = 5
  · rw [if_pos h5]
    refine Q.r ?_; (repeat (intro b1; refine Q.r ?_))
    refine S.cj p rfl (decide_spec n M p j k fr _ hw hk hne) ?_
    rintro _ _ ⟨ra, rc, ma, mc, ea, ec, M', rfl, hl, rfl⟩
    refine Q.r ?_; (repeat (intro b1; refine Q.r ?_))
    refine N.r1 (by apply RV.cellN; rfl; exact RdC.row; rfl; exact RV.nil) ?_ ⟨ra, rc, ma, mc, ea, ec, M', rfl, hl, rfl⟩
    repeat (first | exact Ent.refl _ | exact Ent.nil | refine Ent.pick ?_ | refine Ent.nilS ?_ | refine Ent.nilM ?_ | refine Ent.drop ?_)
  rw [if_neg h5]
  by_cases h7 : n.kind = 7
  · rw [if_pos h7]
    refine Q.r ?_; (repeat (intro b1; refine Q.r ?_))
    refine swp_jur p (fun v mp md self ps hq => ?_)
    refine Q.dgo [true, true, true, true, true, true, true] [] [] [0, 1, 2, 3, 4, 5, 6, 7, 8, 9, 10, 11] ?_
    refine Q.rd ?_; (repeat (intro b1; refine Q.rd ?_))
    refine D.y rfl rfl rfl (by kernel_rfl) (Y.lk true rfl rfl (fun w => Tryd.zeroValue30 w)) ?_
    cases hd : lkL j.done n.txn with
    | some s =>
      dsimp only
      refine Q.rd ?_; (repeat (intro b1; refine Q.rd ?_))
      refine Q.r ?_; (repeat (intro b1; refine Q.r ?_))
      refine N.r1 (by apply RV.cellN; rfl; exact RdC.row; rfl; exact RV.nil) ?_ ⟨none, 0, some ⟨b1, 0, none⟩, 1, none, 0, M, rfl, leM.refl M, rfl⟩
      show Ent _ (eR :: slO 52 17 (some ⟨b1, 0, none⟩) 1 1 (mailC (fr, { NA.zero with kind := 5, txn := n.txn, stamp := s })) :: eM :: jurH M p j :: roM M :: L)
      refine Ent.nilS ?_
      refine Ent.trans ?_ (slO_fold rfl)
      refine Ent.trans (jclose (p := p) (v := v) (sf := self) (dim := j.v.dim) (mp := mp) (md := md) (j := j) (ps := ps) hq rfl) ?_
      repeat (first | exact Ent.refl _ | exact Ent.nil | refine Ent.pick ?_ | refine Ent.nilS ?_ | refine Ent.nilM ?_ | refine Ent.drop ?_)
    | none =>
      dsimp only
      refine Q.rd ?_; (repeat (intro b1; refine Q.rd ?_))
      refine Q.r ?_; (repeat (intro b1; refine Q.r ?_))
      refine N.r1 (by apply RV.cellN; rfl; exact RdC.row; rfl; exact RV.nil) ?_ ⟨none, 0, none, 0, none, 0, M, rfl, leM.refl M, rfl⟩; show Ent _ (eR :: eM :: eM :: jurH M p j :: roM M :: L); refine Ent.trans (jclose (p := p) (v := v) (sf := self) (dim := j.v.dim) (mp := mp) (md := md) (j := j) (ps := ps) hq rfl) ?_; repeat (first | exact Ent.refl _ | exact Ent.nil | refine Ent.pick ?_ | refine Ent.nilS ?_ | refine Ent.nilM ?_ | refine Ent.drop ?_)
  · rw [if_neg h7]
    refine Q.r ?_; (repeat (intro b1; refine Q.r ?_))
    refine N.r1 (by apply RV.cellN; rfl; exact RdC.row; rfl; exact RV.nil) ?_ ⟨none, 0, none, 0, none, 0, M, rfl, leM.refl M, rfl⟩; show Ent _ (eR :: eM :: eM :: jurH M p j :: roM M :: L); repeat (first | exact Ent.refl _ | exact Ent.nil | refine Ent.pick ?_ | refine Ent.nilS ?_ | refine Ent.nilM ?_ | refine Ent.drop ?_)
end Go.Proofs.YtjidejcehmamkaaDoor
