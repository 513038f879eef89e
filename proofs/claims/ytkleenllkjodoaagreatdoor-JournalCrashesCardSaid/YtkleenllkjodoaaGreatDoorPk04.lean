/- A new row of whatever bytes; s[:h:h]; a block given up for reading. The seal's sum, by fours of bits. bytes.Clone, bytes.Join. Frames (pure). The seal's Frame and Next. The seal's All: frames in front. Strings: cut, joined, gone through letter by letter; interfaces of numbers. The ref's vault: Put, set. The ref's vault: Apply. The ref's vault: Apply, walked. Chains: Clone of versions, Sweep. The vault: Sweep. The ref's vault: the chain's Sweep, set of nothing. The ref's vault: Sweep. The vault's law: do. The vault: what every step keeps. Notes: as they lie; sorted, held. Notes: bare, bounded, sorted, Right. Notes: sorted, Right. The juror: notes, plans and records as laws of states. The juror: what it plans can be applied; what is over stays so. The ref's vault: At, Blocked, Get, Scan. The vault and the ref's: Get, Scan; SameHits, Mark. The vault: Scan. The vault: Intents, Dump, as what they give is owned. What is asked of vaults: Last, SameIntents, SameEntries, intents, entries. The juror as it lies; its simple calls. The juror: intent, taken, above. The juror: prepare. The juror: decide. The juror: Plan. The juror: Apply. The juror: New; the law's example. The document's note, cut: Hits, Few. The judge: what it is, as it lies; its small functions. The disk, as it lies; its power; names. The disk: a change, of files that must be there. The disk's Used. The disk's New, Up, Arm, Read, Loose. Regions that draw an order: an operation that writes may read what is held, and give it back. No condition. -/
import Derived.Lib.MakeNoZero
import Derived.Laws.Externs
import Derived.Test.YtkleenllkjodoaaGreatDoorPk03
set_option linter.unusedVariables false
set_option linter.unusedSimpArgs false
set_option linter.unusedSectionVars false
namespace Go.SX
open Go
section
variable {P : Program} {n : Nat} {ops rest : List Oper} {Q : Post} {f : Env} {A L : List HP} {d : Tmp} {ty : TypeId} {pos : String} {af : Array Edge}
theorem Y.sl3n {x hi mx : Operand} {t e : TypeId} {a : Option Addr} {m c sz bts : Nat} {ag : Bool} {zs : List Value} {h mm : Nat} {j k : Int} {kh km : IntKind} [hs : SlTy P t e] [h2 : Ty P e ag sz zs bts] (hx : ev f x = some (.slice a m c))
    (hh : ev f hi = some (.int kh j)) (hm : ev f mx = some (.int km k)) (eh : j = (h : Int)) (em : k = (mm : Int)) (h3 : h ≤ mm) (h4 : mm ≤ c) :
    YieldS P n ops ⟨some d, .slice t x none (some hi) (some mx), ty, pos, af, none⟩ f A (.slice a h mm) := by
  refine Y.of (fun ac w s => ?_)
  subst eh em
  have e1 : ∀ ad : Addr, ad.add 0 = ad := fun _ => rfl
  have e2 : (h : Int) ≤ (mm : Int) := by omega
  have e3 : (mm : Int) ≤ (c : Int) := by omega
  cases a <;> simp [execOp, s.eval hx, s.eval hh, s.eval hm, Instr.sliceAt, hs.und, Instr.slice, Instr.sliceBounds, h2.size, Instr.sliceBound, asIntOf, h3, h4, e1]
theorem S.mnz {g : FuncId} {fn : Func} {x : Operand} {ats : Array TypeId} {ps : Array TypeId} {t e : TypeId} {m : Nat} [h : SlTy P t e] (hf : P.funcs[g]? = some fn) (hname : (fn.name == "runtime.NumGoroutine") = false)
    (hb : fn.body.isNone = true) (hn : Extern.findNext fn = none) (he : Extern.find fn = some (Extern.BytealgMakeNoZero.makeNoZero ps #[t])) (hx : ev f x = some (.int .i64 (m : Int))) (hm : m ≤ 281474976710656)
    (hk : ∀ b cs, m ≤ cs.length → opsS P n ops rest Q (upd f d (.slice (some ⟨b, 0, none⟩) m cs.length)) (pt b (cl cs e) :: L)) :
    opsS P n ops (⟨some d, .call ⟨.value (.func g), #[x], ats⟩, ty, pos, af, none⟩ :: rest) Q f L := by
  refine opsS_value (R := fun v L1 => ∃ b cs, m ≤ cs.length ∧ v = .slice (some ⟨b, 0, none⟩) m cs.length ∧ L1 = pt b (cl cs e) :: L) (fun F ac w s t1 => ?_) (by rintro _ _ ⟨b, cs, h1, rfl, rfl⟩; exact hk b cs h1)
  obtain ⟨cs, hrun, hle, _⟩ := Lib.run_makeNoZero (P := P) w ps t e h.raw m hm
  have hc : (callFunc g #[.int .i64 (m : Int)]).run P w = .ok (.value (.slice (some ⟨w.heap.size, 0, none⟩) m cs.size)) (w.drew.drew.alloc (.cells cs e)) := by
    rw [run_callFunc_extern hf hname hb hn he, hrun]; rfl
  refine ⟨_, w.drew.drew.alloc (.cells cs e), pt w.heap.size (cl cs.toList e) :: L, ?_, ?_, w.heap.size, cs.toList, by simpa using hle, by simp; rfl, rfl⟩
  · have hev : ac.eval (.func g) = .func (.func g) #[] #[] := rfl
    simp [execOp, resolve, Deferred.ofValue, invoke, s.eval hx, hc, hev]
  · have e1 : cl cs.toList e = .cells cs e (0, 0) := by simp [cl]
    rw [e1]
    exact St.pt_new (w := w.drew.drew) t1 rfl
theorem opsS_absR (b : Nat) {t : TypeId} {l cs : List Value} {m : Nat} {L0 L1 : List HP} {M : Nat → Option Obj} [h : Pick (pt b (cl l t)) L L0] [h1 : PickM L0 M L1] (hm : m ≤ l.length) (he : l.take m = cs)
    (hk : ∀ M', leM M M' → SlM M' (some ⟨b, 0, none⟩) m 1 cs → opsS P n ops rest Q f (roM M' :: L1)) : opsS P n ops rest Q f L := by
  refine opsS_ent (h.ent.trans (slO_fold (sz := 1) (m := l.length) (by simp))) ?_
  refine opsS_abs (some ⟨b, 0, none⟩) (fun M' hl hs => hk M' hl ?_)
  have := SlM.take hs hm
  rwa [Nat.mul_one, he] at this
theorem swp_absR (b : Nat) {cd : Code} {t : TypeId} {l cs : List Value} {m : Nat} {L0 L1 : List HP} {M : Nat → Option Obj} [h : Pick (pt b (cl l t)) L L0] [h1 : PickM L0 M L1] (hm : m ≤ l.length) (he : l.take m = cs)
    (hk : ∀ M', leM M M' → SlM M' (some ⟨b, 0, none⟩) m 1 cs → swp P n cd Q f (roM M' :: L1)) : swp P n cd Q f L := by
  refine swp_ent (h.ent.trans (slO_fold (sz := 1) (m := l.length) (by simp))) ?_
  refine swp_abs (some ⟨b, 0, none⟩) (fun M' hl hs => hk M' hl ?_)
  have := SlM.take hs hm
  rwa [Nat.mul_one, he] at this
theorem opsS_absc (a : Option Addr) {t sz m c : Nat} {cs : List Value} {L0 L1 : List HP} {M : Nat → Option Obj} [h : PickS a L t sz m c cs L0] [h1 : PickM L0 M L1]
    (hk : ∀ M', leM M M' → SlM M' a m sz cs → m ≤ c → opsS P n ops rest Q f (roM M' :: L1)) : opsS P n ops rest Q f L := by
  refine opsS_ent (h.ent.trans slO_cap) (opsS_pure fun hc => ?_)
  exact opsS_absorb (fun M' hl hs => hk M' hl hs hc)
end
theorem slO_adr {t sz m c : Nat} {a : Option Addr} {cs : List Value} {L : List HP} : Ent (slO t sz a m c cs :: L) (pureH (cs.length = m * sz ∧ (m = 0 ∨ ∃ b, a = some ⟨b, 0, none⟩) ∧ m ≤ c) :: slO t sz a m c cs :: L) := fun w F H => by
  have H0 : St w (slO t sz a m c cs :: (L ++ F)) := by simpa using H
  obtain ⟨hl, hq⟩ := St.slO_open H0
  have hp : cs.length = m * sz ∧ (m = 0 ∨ ∃ b, a = some ⟨b, 0, none⟩) ∧ m ≤ c := by
    refine ⟨hl, ?_⟩
    rcases hq with ⟨_, hm, hc, _⟩ | ⟨b, _, ha, hm, _⟩
    · exact ⟨.inl hm, by omega⟩
    · exact ⟨.inr ⟨b, ha⟩, hm⟩
  exact Ent.shut_pure hp w F H
theorem opsS_sl {P : Program} {n : Nat} {ops rest : List Oper} {Q : Post} {f : Env} {L : List HP} (a : Option Addr) {t sz m c : Nat} {cs : List Value} {L0 : List HP} [h : PickS a L t sz m c cs L0]
    (hk : cs.length = m * sz → (m = 0 ∨ ∃ b, a = some ⟨b, 0, none⟩) → m ≤ c → opsS P n ops rest Q f (slO t sz a m c cs :: L0)) : opsS P n ops rest Q f L :=
  opsS_ent (h.ent.trans slO_adr) (opsS_pure fun hp => hk hp.1 hp.2.1 hp.2.2)
theorem put_mid (pre rest ys : List Value) : putAt (pre ++ rest) pre.length ys = pre ++ ys ++ rest.drop ys.length := by
  unfold putAt
  rw [List.take_left', List.drop_append, Nat.add_sub_cancel_left]
  · rw [List.drop_eq_nil_of_le (by omega), List.nil_append]
  · rfl
end Go.SX
namespace Go.Proofs.YtkleenllkjodoaaGreatDoor
open Go Go.SX
attribute [local irreducible] swp opsS thenS blockS retS CallsS St Ent YieldS anyS drawS
def nibC : List Value := nibT.map fun z : Nat => Value.int .u32 (z : Int)
def NibM (M : Nat → Option Obj) : Prop := SlM M (some ⟨0, 0, none⟩) 16 1 nibC
theorem NibM.mono {M M' : Nat → Option Obj} (h : NibM M) (hl : leM M M') : NibM M' := SlM.mono h hl
theorem NibM.rd {M : Nat → Option Obj} (h : NibM M) {L : List HP} [HasM M L] : RdC L 0 0 nibC := by
  have h1 : RdS L (some ⟨0, 0, none⟩) 16 1 nibC := SlM.rd h
  rcases h1.2 with h2 | ⟨b, o, e, r⟩
  · cases h2
  · cases e; exact r
theorem nibC_get (k : Nat) (h : k < 16) : nibC[k]? = some (.int .u32 (nibV k)) := by
  rcases k with _ | _ | _ | _ | _ | _ | _ | _ | _ | _ | _ | _ | _ | _ | _ | _ | k <;> first | rfl | omega
theorem nib_and (c : Nat) : c &&& 15 < 16 := Nat.lt_of_le_of_lt Nat.and_le_right (by decide)
set_option maxHeartbeats 2000000 in
theorem Sum_spec (a : Option Addr) (c : Nat) (vs : List YB) (L : List HP) (h : RdS L a vs.length 1 (vs.flatMap YB.cells)) (hv : ∀ v ∈ vs, okY L v) (hT : RdC L 0 0 nibC) (hn : vs.length ≤ 1000000) (hb : (catY vs).length ≤ 1000000000000) :
    CallsS Tryz.prog 62 [.slice a vs.length c] L (fun r L' => r = .int .u32 (crcB (catY vs)) ∧ L' = L) := by
  refine CallsS.of_body Tryz.func62 rfl rfl rfl ?_
  refine Q.r ?_; (repeat (intro b1; refine Q.r ?_))
  refine swp_cutB (σ := Unit) (fun _ => [(3, .int .u32 (crcF 4294967295 (catY vs)))]) (fun _ => L) (fun _ => True) ?_ ?_
  · refine swp_loop (σ := Nat) (fun k => [(8, .slice a vs.length c), (9, .int .i64 vs.length), (3, .int .u32 (crcF 4294967295 (catY (vs.take k)))), (10, .int .i64 k)]) (fun _ => L)
      (fun k => k ≤ vs.length) (fun k => vs.length - k) 0 ⟨rfl, rfl, rfl, rfl, trivial⟩ (Ent.refl _) (by omega) ?_
    intro k hk
    by_cases hlt : k < vs.length
    · obtain ⟨v, hx⟩ := mem_get hlt
      have hmv : v ∈ vs := List.mem_of_getElem? hx
      have hvl := cat_len hmv
      obtain ⟨b, o, hab, hr⟩ := RdS.elem (g := YB.cells) (fun _ => rfl) h hx rfl
      rw [hab]
      refine Q.r ?_; (repeat (intro b1; refine Q.r ?_))
      have hv0 := hv v hmv
      unfold okY at hv0
      rw [← flat_bC] at hv0
      refine swp_loop (σ := Nat) (fun j => [(8, .slice (some ⟨b, o, none⟩) vs.length c), (9, .int .i64 vs.length), (10, .int .i64 k), (14, v.val), (15, .int .i64 v.bs.length), (3, .int .u32 (crcF (crcF 4294967295 (catY (vs.take k))) (v.bs.take j))), (16, .int .i64 j)]) (fun _ => L)
        (fun j => j ≤ v.bs.length) (fun j => v.bs.length - j) 0 ⟨rfl, rfl, rfl, rfl, rfl, rfl, rfl, trivial⟩ (Ent.refl _) (by omega) ?_
      intro j hj
      have hc0 : crcF (crcF 4294967295 (catY (vs.take k))) (v.bs.take j) < 4294967296 := crcF_lt _ (crcF_lt _ (by decide))
      by_cases hjl : j < v.bs.length
      · obtain ⟨x, hxj⟩ := mem_get hjl
        obtain ⟨b2, o2, hab2, hr2⟩ := RdS.elem (g := bC) (fun _ => rfl) hv0 hxj rfl
        have hsn : crcF (crcF 4294967295 (catY (vs.take k))) (v.bs.take (j + 1)) = crcS (crcF (crcF 4294967295 (catY (vs.take k))) (v.bs.take j)) x := by
          rw [take_snoc hxj, crcF_app]; rfl
        generalize hcc : crcF (crcF 4294967295 (catY (vs.take k))) (v.bs.take j) = cc at hc0 hsn
        have hx8 := x.toNat_lt
        have l1 : x.toNat < 4294967296 := by omega
        unfold YB.val
        rw [hab2]
        refine Q.r ?_; (repeat (intro b1; refine Q.r ?_))
        refine S.y (Y.cv32 (a := x.toNat) rfl l1) ?_
        refine S.y (Y.xor32 rfl rfl hc0 l1) ?_
        have l2 : cc ^^^ x.toNat < 4294967296 := xor_lt hc0 l1
        have l3 : ∀ z : Nat, z < 4294967296 → z / 2 ^ 4 < 4294967296 := fun z hz => Nat.lt_of_le_of_lt (Nat.div_le_self _ _) hz
        have l4 : nib1 (cc ^^^ x.toNat) < 4294967296 := nib1_lt l2
        have hs : crcS cc x = nib1 (nib1 (cc ^^^ x.toNat)) := rfl
        generalize cc ^^^ x.toNat = y at *
        have e1 : ∀ y, nib1 y = y / 2 ^ 4 ^^^ nibV (y &&& 15) := fun y => by unfold nib1; rw [Nat.shiftRight_eq_div_pow]
        refine Q.r ?_; (repeat (intro b1; refine Q.r ?_))
        refine S.y (Y.shr rfl rfl (by decide)) ?_
        refine Q.r ?_; (repeat (intro b1; refine Q.r ?_))
        refine S.y (Y.and32 (b := 15) rfl rfl l2 (by decide)) ?_
        refine S.y (Y.iaa rfl rfl rfl (nib_and _)) ?_
        refine S.y (Y.ldRj rfl hT (by rw [Nat.mul_one]; exact nibC_get _ (nib_and _))) ?_
        refine S.y (Y.xor32 rfl rfl (l3 _ l2) (nibV_lt _)) ?_
        rw [← e1]
        rw [e1 (nib1 y)] at hs
        generalize nib1 y = z at *
        refine Q.r ?_; (repeat (intro b1; refine Q.r ?_))
        refine S.y (Y.shr rfl rfl (by decide)) ?_
        refine Q.r ?_; (repeat (intro b1; refine Q.r ?_))
        refine S.y (Y.and32 (b := 15) rfl rfl l4 (by decide)) ?_
        refine S.y (Y.iaa rfl rfl rfl (nib_and _)) ?_
        refine S.y (Y.ldRj rfl hT (by rw [Nat.mul_one]; exact nibC_get _ (nib_and _))) ?_
        refine S.y (Y.xor32 rfl rfl (l3 _ l4) (nibV_lt _)) ?_
        rw [← hs]
        refine Q.r ?_; (repeat (intro b1; refine Q.r ?_))
        refine ⟨j + 1, ⟨rfl, rfl, rfl, by rw [← hab2]; rfl, rfl, by rw [hsn]; rfl, rfl, trivial⟩, Ent.refl _, by omega, by omega⟩
      · have hje : j = v.bs.length := by omega
        subst hje
        refine Q.r ?_; (repeat (intro b1; refine Q.r ?_))
        have e3 : crcF (crcF 4294967295 (catY (vs.take k))) (v.bs.take v.bs.length) = crcF 4294967295 (catY (vs.take (k + 1))) := by
          rw [List.take_length, take_snoc hx]
          unfold catY
          rw [List.flatMap_append, crcF_app]
          simp
        rw [e3]
        exact ⟨k + 1, ⟨rfl, rfl, rfl, rfl, trivial⟩, Ent.refl _, by omega, by omega⟩
    · have hke : k = vs.length := by omega
      subst hke
      refine Q.r ?_; (repeat (intro b1; refine Q.r ?_))
      refine ⟨(), ⟨?_, trivial⟩, Ent.refl _, trivial⟩
      rw [List.take_length]; rfl
  · intro _ _
    have hc0 : crcF 4294967295 (catY vs) < 4294967296 := crcF_lt _ (by decide)
    refine Q.r ?_; (repeat (intro b1; refine Q.r ?_))
    refine S.y (Y.cpl32 rfl hc0) ?_
    refine Q.r ?_; (repeat (intro b1; refine Q.r ?_))
    refine N.r1 (RV.tmp rfl RV.nil) (Ent.refl _) ⟨?_, rfl⟩
    unfold crcB
    rw [Nat.xor_comm]
end Go.Proofs.YtkleenllkjodoaaGreatDoor
namespace Go.Proofs.YtkleenllkjodoaaGreatDoor
open Go Go.SX
attribute [local irreducible] swp opsS thenS blockS retS CallsS St Ent YieldS anyS drawS
def gotB (M : Nat → Option Obj) (L0 : List HP) (bs : List UInt8) (r : Value) (L' : List HP) : Prop := ∃ v : YB, ∃ M', r = v.val ∧ v.bs = bs ∧ okYM M' v ∧ bs.length ≤ v.c ∧ leM M M' ∧ L' = roM M' :: L0
set_option maxHeartbeats 1000000 in
theorem Clone_spec (a : Option Addr) (c : Nat) (bs : List UInt8) (M : Nat → Option Obj) (L L0 : List HP) [hP : PickM L M L0] (h : RdS L a bs.length 1 (bs.map B)) (hb : bs.length ≤ 100000000000000) :
    CallsS Tryz.prog 48 [.slice a bs.length c] L (gotB M L0 bs) := by
  refine CallsS.of_body Tryz.func48 rfl rfl rfl ?_
  cases a with
  | none =>
    have h0 : bs = [] := by
      rcases h.2 with h0 | ⟨b, o, e, _⟩
      · exact List.eq_nil_of_length_eq_zero h0
      · cases e
    subst h0
    refine Q.r ?_; (repeat (intro b1; refine Q.r ?_))
    exact N.r1 (RV.tmp rfl RV.nil) hP.ent ⟨⟨none, 0, []⟩, M, rfl, rfl, SlM.nil, Nat.le_refl _, leM.refl _, rfl⟩
  | some ad =>
    refine Q.r ?_; (repeat (intro b1; refine Q.r ?_))
    refine opsS_ent (slO_fold (sz := 1) (m := 0) rfl) ?_
    refine Q.r ?_; (repeat (intro b1; refine Q.r ?_))
    refine S.app0 rfl rfl rfl (SrcS.rd h.sub (B_one _)) (by rfl) (by omega) (by omega) (fun a' c' => ?_)
    refine opsS_absc a' (fun M' hl hs hc => ?_)
    refine Q.r ?_; (repeat (intro b1; refine Q.r ?_))
    exact N.r1 (RV.tmp rfl RV.nil) (Ent.refl _) ⟨⟨a', c', bs⟩, M', rfl, rfl, hs, hc, hl, rfl⟩
set_option maxHeartbeats 4000000 in
theorem Join_spec (a : Option Addr) (c : Nat) (vs : List YB) (M : Nat → Option Obj) (L L0 : List HP) [hP : PickM L M L0] (h : RdS L a vs.length 1 (vs.flatMap YB.cells)) (hv : ∀ v ∈ vs, okY L v) (hc : vs.length ≤ c) (hn : vs.length ≤ 1000000) (hb : (catY vs).length ≤ 100000000000000) :
    CallsS Tryz.prog 51 [.slice a vs.length c, .slice none 0 0] L (gotB M L0 (catY vs)) := by
  refine CallsS.of_body Tryz.func51 rfl rfl rfl ?_
  by_cases h0 : vs.length = 0
  · have e0 : vs = [] := List.eq_nil_of_length_eq_zero h0
    subst e0
    refine Q.r ?_; (repeat (intro b1; refine Q.r ?_))
    exact N.r1 (RV.tmp rfl RV.nil) (Ent.drop hP.ent) ⟨⟨some ⟨b1, 0, none⟩, 0, []⟩, M, rfl, rfl, SlM.nil, Nat.le_refl _, leM.refl _, rfl⟩
  · by_cases h1 : vs.length = 1
    · obtain ⟨v, rfl⟩ : ∃ v, vs = [v] := by
        match vs, h1 with
        | [v], _ => exact ⟨v, rfl⟩
      have hv0 := hv v (by simp)
      have hvl : v.bs.length ≤ 100000000000000 := by simpa [catY] using hb
      obtain ⟨b, o, rfl, hr⟩ := RdS.elem (k := 0) (x := v) (g := YB.cells) (fun _ => rfl) h rfl rfl
      unfold okY at hv0
      refine Q.r ?_; (repeat (intro b1; refine Q.r ?_))
      refine opsS_ent (slO_nil (t := 5) (sz := 1)) ?_
      refine S.app0 rfl rfl rfl (SrcS.rd hv0.sub (B_one _)) (by rfl) (by omega) (by omega) (fun a' c' => ?_)
      refine opsS_absc a' (fun M' hl hs hc' => ?_)
      refine Q.r ?_; (repeat (intro b1; refine Q.r ?_))
      exact N.r1 (RV.tmp rfl RV.nil) (Ent.refl _) ⟨⟨a', c', v.bs⟩, M', rfl, by simp [catY], hs, by simpa [catY] using hc', hl, rfl⟩
    · refine Q.r ?_; (repeat (intro b1; refine Q.r ?_))
      have hS : ∀ k, (catY (vs.take k)).length ≤ (catY vs).length := fun k => by
        conv => rhs; rw [← List.take_append_drop k vs]
        unfold catY
        rw [List.flatMap_append, List.length_append]; omega
      have hsn : ∀ {k : Nat} {v : YB}, vs[k]? = some v → catY (vs.take (k + 1)) = catY (vs.take k) ++ v.bs := fun {k v} hx => by
        rw [take_snoc hx]; unfold catY; rw [List.flatMap_append]; simp
      refine swp_cutB (σ := Unit) (fun _ => [(0, .slice a vs.length c), (1, .slice none 0 0), (5, .int .i64 (catY vs).length)]) (fun _ => L) (fun _ => True) ?_ ?_
      · refine swp_loop (σ := Nat) (fun k => [(0, .slice a vs.length c), (1, .slice none 0 0), (42, .slice a vs.length c), (43, .int .i64 vs.length), (5, .int .i64 (catY (vs.take k)).length), (44, .int .i64 k)]) (fun _ => L)
          (fun k => k ≤ vs.length) (fun k => vs.length - k) 0 ⟨rfl, rfl, rfl, rfl, rfl, rfl, trivial⟩ (Ent.refl _) (by omega) ?_
        intro k hk
        by_cases hlt : k < vs.length
        · obtain ⟨v, hx⟩ := mem_get hlt
          obtain ⟨b, o, hab, hr⟩ := RdS.elem (g := YB.cells) (fun _ => rfl) h hx rfl
          have h2 := hS (k + 1)
          have e2 := congrArg List.length (hsn hx)
          rw [List.length_append] at e2
          rw [hab]
          refine Q.r ?_; (repeat (intro b1; refine Q.r ?_))
          refine ⟨k + 1, ⟨rfl, rfl, rfl, rfl, by rw [e2]; rfl, rfl, trivial⟩, Ent.refl _, by omega, by omega⟩
        · have hke : k = vs.length := by omega
          subst hke
          refine Q.r ?_; (repeat (intro b1; refine Q.r ?_))
          refine ⟨(), ⟨rfl, rfl, ?_, trivial⟩, Ent.refl _, trivial⟩
          rw [List.take_length]; rfl
      intro _ _
      refine Q.r ?_; (repeat (intro b1; refine Q.r ?_))
      refine S.mnz (fn := Tryz.f71) (ps := #[3]) (t := 31) (m := (catY vs).length) (by kernel_rfl) (by kernel_rfl) (by kernel_rfl) (by kernel_rfl) (by kernel_rfl) rfl (by omega) (fun bb cs hcs => ?_)
      refine Q.r ?_; (repeat (intro b1; refine Q.r ?_))
      refine S.y (Y.sl3n (h := (catY vs).length) (mm := (catY vs).length) rfl rfl rfl rfl rfl (Nat.le_refl _) hcs) ?_
      obtain ⟨v, hx⟩ := mem_get (show 0 < vs.length by omega)
      obtain ⟨b, o, rfl, hr⟩ := RdS.elem (g := YB.cells) (fun _ => rfl) h hx rfl
      have hs0 : catY (vs.take 1) = v.bs := by
        have := hsn hx
        rwa [List.take_zero] at this
      have hmv := List.mem_of_getElem? hx
      have hS1 := cat_len hmv
      have hv0 := hv v hmv
      unfold okY at hv0
      refine Q.r ?_; (repeat (intro b1; refine Q.r ?_))
      refine S.y (Y.ia (k := 0) rfl rfl rfl (by omega)) ?_
      refine Q.r ?_; (repeat (intro b1; refine Q.r ?_))
      refine opsS_cutT (σ := Unit) (fun _ => [(0, .slice (some ⟨b, o, none⟩) vs.length c), (1, .slice none 0 0), (8, .slice (some ⟨bb, 0, none⟩) (catY vs).length (catY vs).length), (9, .int .i64 v.bs.length)]) (fun _ => pt bb (cl (v.bs.map B ++ cs.drop v.bs.length) 5) :: L) (fun _ => True) ?_ ?_
      · obtain ⟨va, vc, vb⟩ := v
        dsimp only at hv0 hS1 hs0 ⊢
        rcases hv0.2 with hz | ⟨b2, o2, hva, hvr⟩
        · have hvn : vb = [] := List.eq_nil_of_length_eq_zero hz
          subst hvn
          refine S.cpy0 rfl rfl ?_
          refine Q.r ?_; (repeat (intro b1; refine Q.r ?_))
          exact ⟨(), ⟨rfl, rfl, rfl, rfl, trivial⟩, by repeat (first | exact Ent.refl _ | exact Ent.nil | refine Ent.pick ?_ | refine Ent.nilS ?_ | refine Ent.nilM ?_ | refine Ent.drop ?_), trivial⟩
        · subst hva
          refine S.cpy (l' := vb.map B ++ cs.drop vb.length) rfl rfl hvr.sub (by rw [List.length_map, Nat.mul_one]; exact (Nat.min_eq_left hS1).symm) (by rw [List.length_map]; omega) (B_one _) (by have := put_mid [] cs (vb.map B); simpa using this) ?_
          rw [show min vb.length (catY vs).length = vb.length by omega]
          refine Q.r ?_; (repeat (intro b1; refine Q.r ?_))
          exact ⟨(), ⟨rfl, rfl, rfl, rfl, trivial⟩, by repeat (first | exact Ent.refl _ | exact Ent.nil | refine Ent.pick ?_ | refine Ent.nilS ?_ | refine Ent.nilM ?_ | refine Ent.drop ?_), trivial⟩
      intro _ _
      refine Q.r ?_; (repeat (intro b1; refine Q.r ?_))
      refine S.y (Y.slF (l := 1) rfl rfl rfl (by omega)) ?_
      rw [if_neg (show ¬ c = 1 by omega)]
      refine Q.r ?_; (repeat (intro b1; refine Q.r ?_))
      have htl : RdS L (some ⟨b, o + 1 * 1, none⟩) (vs.length - 1) 1 ((vs.drop 1).flatMap YB.cells) := by
        have := RdS.from2 (l := 1) h (by omega) hc
        rw [if_neg (show ¬ c = 1 by omega), flat_drop (sz := 1) (fun _ => rfl)] at this
        exact this
      refine swp_cutB (σ := Unit) (fun _ => [(8, .slice (some ⟨bb, 0, none⟩) (catY vs).length (catY vs).length)]) (fun _ => pt bb (cl ((catY vs).map B ++ cs.drop (catY vs).length) 5) :: L) (fun _ => True) ?_ ?_
      · refine swp_loop (σ := Nat) (fun k => [(1, .slice none 0 0), (8, .slice (some ⟨bb, 0, none⟩) (catY vs).length (catY vs).length), (70, .slice (some ⟨b, o + 1 * 1, none⟩) (vs.length - 1) (c - 1)), (71, .int .i64 ((vs.length - 1 : Nat) : Int)), (9, .int .i64 (catY (vs.take (k + 1))).length), (72, .int .i64 k)])
          (fun k => pt bb (cl ((catY (vs.take (k + 1))).map B ++ cs.drop (catY (vs.take (k + 1))).length) 5) :: L)
          (fun k => k ≤ vs.length - 1) (fun k => vs.length - 1 - k) 0 ⟨rfl, rfl, rfl, rfl, by rw [hs0]; rfl, rfl, trivial⟩ (by rw [hs0]; exact Ent.refl _) (by omega) ?_
        intro k hk
        have hSk := hS (k + 1)
        by_cases hlt : k < vs.length - 1
        · obtain ⟨u, hu⟩ := mem_get (show k + 1 < vs.length by omega)
          have hmu := List.mem_of_getElem? hu
          have hsu := hsn hu
          have hSu := hS (k + 1 + 1)
          have hu0 := hv u hmu
          unfold okY at hu0
          generalize hpre : catY (vs.take (k + 1)) = pre at *
          have htl2 : RdS (pt bb (cl (pre.map B ++ cs.drop pre.length) 5) :: L) (some ⟨b, o + 1 * 1, none⟩) (vs.length - 1) 1 ((vs.drop 1).flatMap YB.cells) := htl.sub
          have hu2 : (vs.drop 1)[k]? = some u := by rw [List.getElem?_drop, Nat.add_comm]; exact hu
          obtain ⟨b3, o3, he, hr3⟩ := RdS.elem (g := YB.cells) (fun _ => rfl) htl2 hu2 (by simp)
          cases he
          rw [hsu, List.length_append] at hSu
          refine Q.r ?_; (repeat (intro b1; refine Q.r ?_))
          refine S.y (Y.slF (l := pre.length) rfl rfl rfl (by omega)) ?_
          refine Q.r ?_; (repeat (intro b1; refine Q.r ?_))
          refine S.cpy0 rfl rfl ?_
          refine Q.r ?_; (repeat (intro b1; refine Q.r ?_))
          refine S.y (Y.slF (l := pre.length) rfl rfl (Int.add_zero _) (by omega)) ?_
          refine Q.r ?_; (repeat (intro b1; refine Q.r ?_))
          obtain ⟨ua, uc, ub⟩ := u
          dsimp only at hu0 hSu hsu ⊢
          by_cases hz : ub.length = 0
          · have hvn : ub = [] := List.eq_nil_of_length_eq_zero hz
            subst hvn
            refine S.cpy0 rfl rfl ?_
            refine Q.r ?_; (repeat (intro b1; refine Q.r ?_))
            rw [List.append_nil] at hsu
            refine ⟨k + 1, ⟨rfl, rfl, rfl, rfl, ?_, rfl, trivial⟩, by rw [hsu]; exact Ent.refl _, by omega, by omega⟩
            rw [hsu]; exact congrArg some (congrArg (Value.int .i64) (by simp))
          · obtain ⟨b2, o2, hva, hvr⟩ := hu0.2.resolve_left hz
            subst hva
            rw [if_neg (show ¬ (catY vs).length = pre.length by omega)]
            refine S.cpy (l' := (pre ++ ub).map B ++ cs.drop (pre ++ ub).length) rfl rfl hvr.sub (by rw [List.length_map, Nat.mul_one]; exact (Nat.min_eq_left (by omega)).symm) (by rw [List.length_append, List.length_map, List.length_map, List.length_drop]; omega) (B_one _) ?_ ?_
            · have := put_mid (pre.map B) (cs.drop pre.length) (ub.map B)
              rw [List.length_map, List.length_map, List.drop_drop] at this
              rw [List.map_append, List.length_append, Nat.zero_add, Nat.mul_one]; exact this
            rw [show min ub.length ((catY vs).length - pre.length) = ub.length by omega]
            refine Q.r ?_; (repeat (intro b1; refine Q.r ?_))
            refine ⟨k + 1, ⟨rfl, rfl, rfl, rfl, ?_, rfl, trivial⟩, by rw [hsu]; exact Ent.refl _, by omega, by omega⟩
            rw [hsu, List.length_append]; exact congrArg some (congrArg (Value.int .i64) (by simp))
        · have hke : k = vs.length - 1 := by omega
          subst hke
          rw [show vs.length - 1 + 1 = vs.length by omega, List.take_length]
          refine Q.r ?_; (repeat (intro b1; refine Q.r ?_))
          exact ⟨(), ⟨rfl, trivial⟩, Ent.refl _, trivial⟩
      · intro _ _
        refine swp_absR bb (t := 5) (l := (catY vs).map B ++ cs.drop (catY vs).length) (m := (catY vs).length) (cs := (catY vs).map B) (by rw [List.length_append, List.length_map]; omega) (List.take_left' (by rw [List.length_map])) (fun M' hl hs => ?_)
        refine Q.r ?_; (repeat (intro b1; refine Q.r ?_))
        exact N.r1 (RV.tmp rfl RV.nil) (Ent.refl _) ⟨⟨some ⟨bb, 0, none⟩, (catY vs).length, catY vs⟩, M', rfl, rfl, hs, Nat.le_refl _, hl, rfl⟩
end Go.Proofs.YtkleenllkjodoaaGreatDoor
namespace Go.SX
open Go
def lowB : Nat → Nat → List UInt8
  | 0, _ => []
  | k + 1, n => UInt8.ofNat (n % 256) :: lowB k (n / 256)
def numL : List UInt8 → Nat
  | [] => 0
  | b :: bs => numL bs * 256 + b.toNat
theorem lowB_len : ∀ k n, (lowB k n).length = k
  | 0, _ => rfl
  | k + 1, n => by simp [lowB, lowB_len k]
theorem numL_low : ∀ k n, n < 256 ^ k → numL (lowB k n) = n
  | 0, n, h => by simp [lowB, numL] at *; omega
  | k + 1, n, h => by
    have h2 : n / 256 < 256 ^ k := by rw [Nat.div_lt_iff_lt_mul (by decide)]; rwa [Nat.pow_succ] at h
    show numL (lowB k (n / 256)) * 256 + (UInt8.ofNat (n % 256)).toNat = n
    rw [numL_low k _ h2, UInt8.toNat_ofNat']
    omega
theorem low4 (n : Nat) : lowB 4 n = [UInt8.ofNat (n % 256), UInt8.ofNat (n / 2 ^ 8 % 256), UInt8.ofNat (n / 2 ^ 16 % 256), UInt8.ofNat (n / 2 ^ 24 % 256)] := by
  show [UInt8.ofNat (n % 256), UInt8.ofNat (n / 256 % 256), UInt8.ofNat (n / 256 / 256 % 256), UInt8.ofNat (n / 256 / 256 / 256 % 256)] = _
  rw [Nat.div_div_eq_div_mul, Nat.div_div_eq_div_mul]
theorem Y.cv8 {P : Program} {n : Nat} {ops : List Oper} {f : Env} {A : List HP} {d : Tmp} {ty : TypeId} {pos : String} {af : Array Edge} {x : Operand} {s t : TypeId} {k : IntKind} {a : Nat} [h0 : HasUnd P s] [h2 : IntTy P t .u8] (hx : ev f x = some (.int k (a : Int))) : YieldS P n ops ⟨some d, .convert s t x, ty, pos, af, none⟩ f A (B (UInt8.ofNat (a % 256))) := by
  have h := Y.cvi (P := P) (n := n) (ops := ops) (A := A) (d := d) (ty := ty) (pos := pos) (af := af) (t := s) (t' := t) (k' := .u8) hx
  have e : IntKind.u8.wrap (a : Int) = ((UInt8.ofNat (a % 256)).toNat : Int) := by
    rw [UInt8.toNat_ofNat']
    simp [IntKind.wrap, IntKind.bits, IntKind.signed]
  rw [e] at h
  exact h
theorem wrap64 {n : Nat} (h : n < 9223372036854775808) : IntKind.i64.wrap (n : Int) = (n : Int) := by
  simp [IntKind.wrap, IntKind.bits, IntKind.signed]; omega
section
variable {P : Program} {n : Nat} {ops : List Oper} {f : Env} {A : List HP} {d : Tmp} {ty : TypeId} {pos : String} {af : Array Edge} {x y : Operand} {t t' : TypeId} {k k' : IntKind} {a b : Nat}
theorem Y.cv64 [h0 : HasUnd P t] [h2 : IntTy P t' .i64] (hx : ev f x = some (.int k (a : Int))) (ha : a < 9223372036854775808) : YieldS P n ops ⟨some d, .convert t t' x, ty, pos, af, none⟩ f A (.int .i64 (a : Int)) := wrap64 ha ▸ Y.cvi hx
theorem Y.shl64 (hx : ev f x = some (.int .i64 (a : Int))) (hy : ev f y = some (.int k' (b : Int))) (hb : b ≤ IntKind.i64.bits) (h : a * 2 ^ b < 9223372036854775808) : YieldS P n ops ⟨some d, .binOp .shl t x y t', ty, pos, af, none⟩ f A (.int .i64 ((a * 2 ^ b : Nat) : Int)) := wrap64 h ▸ Y.shl hx hy hb
theorem Y.shl32 (hx : ev f x = some (.int .u32 (a : Int))) (hy : ev f y = some (.int k' (b : Int))) (hb : b ≤ IntKind.u32.bits) (h : a * 2 ^ b < 4294967296) : YieldS P n ops ⟨some d, .binOp .shl t x y t', ty, pos, af, none⟩ f A (.int .u32 ((a * 2 ^ b : Nat) : Int)) := wrap32 h ▸ Y.shl hx hy hb
theorem or_add {m : Nat} (ha : a < 2 ^ m) : a ||| b * 2 ^ m = a + b * 2 ^ m := by rw [Nat.or_comm, Nat.mul_comm, ← Nat.two_pow_add_eq_or_of_lt ha, Nat.add_comm]
theorem Y.or64 {m : Nat} (hx : ev f x = some (.int .i64 (a : Int))) (hy : ev f y = some (.int .i64 ((b * 2 ^ m : Nat) : Int))) (ha : a < 2 ^ m) (h : a + b * 2 ^ m < 9223372036854775808) : YieldS P n ops ⟨some d, .binOp .or t x y t', ty, pos, af, none⟩ f A (.int .i64 ((a + b * 2 ^ m : Nat) : Int)) := by
  have h1 := Y.orr (P := P) (n := n) (ops := ops) (A := A) (d := d) (ty := ty) (pos := pos) (af := af) (t := t) (t' := t') hx hy
  have e : ∀ z : Nat, z < 9223372036854775808 → (BitVec.ofInt IntKind.i64.bits (z : Int)).toNat = z := fun z hz => by
    show (BitVec.ofInt 64 (z : Int)).toNat = z
    simp; omega
  rw [BitVec.toNat_or, e _ (by omega), e _ (by omega), or_add ha, wrap64 h] at h1
  exact h1
theorem Y.or32a {m : Nat} (hx : ev f x = some (.int .u32 (a : Int))) (hy : ev f y = some (.int .u32 ((b * 2 ^ m : Nat) : Int))) (ha : a < 2 ^ m) (h : a + b * 2 ^ m < 4294967296) : YieldS P n ops ⟨some d, .binOp .or t x y t', ty, pos, af, none⟩ f A (.int .u32 ((a + b * 2 ^ m : Nat) : Int)) := or_add ha ▸ Y.or32 hx hy (by omega) (by omega)
end
theorem RdS.row1y {L : List HP} {b n : Nat} {l : List Value} {t : TypeId} [h : FindB b L (cl l t)] (hl : l.length = n) : RdS L (some ⟨b, 0, none⟩) n 1 l := ⟨by rw [hl, Nat.mul_one], .inr ⟨b, 0, rfl, RdC.row⟩⟩
theorem SlM.from2 {M : Nat → Option Obj} {b o m c l sz : Nat} {cs : List Value} (h : SlM M (some ⟨b, o, none⟩) m sz cs) (h1 : l ≤ m) (h2 : m ≤ c) : SlM M (some ⟨b, if c = l then o else o + l * sz, none⟩) (m - l) sz (cs.drop (l * sz)) := by
  refine ⟨by rw [List.length_drop, h.1, Nat.sub_mul], ?_⟩
  rcases h.2 with h3 | ⟨b', o', l', t, fz, e, e1, e2⟩
  · exact .inl (by omega)
  · by_cases hc : c = l
    · exact .inl (by omega)
    · cases e
      rw [if_neg hc]
      refine .inr ⟨b, o + l * sz, l', t, fz, rfl, e1, fun j v hj => ?_⟩
      rw [List.getElem?_drop] at hj
      have := e2 _ v hj
      rwa [← Nat.add_assoc] at this
theorem okYM.cut {M : Nat → Option Obj} {b o c : Nat} {bs : List UInt8} (h : SlM M (some ⟨b, o, none⟩) bs.length 1 (bs.map B)) (hc : bs.length ≤ c) (l k : Nat) (hk : l + k ≤ bs.length) :
    okYM M ⟨some ⟨b, if c = l then o else o + l * 1, none⟩, c - l, (bs.drop l).take k⟩ := by
  have h1 := SlM.take (SlM.from2 (l := l) h (by omega) hc) (k := k) (by omega)
  unfold okYM
  dsimp only
  have e : ((bs.drop l).take k).length = k := by rw [List.length_take, List.length_drop]; omega
  rw [e, List.map_take, List.map_drop]
  simp only [Nat.mul_one] at h1 ⊢; exact h1
theorem okYM.tail {M : Nat → Option Obj} {b o c : Nat} {bs : List UInt8} (h : SlM M (some ⟨b, o, none⟩) bs.length 1 (bs.map B)) (hc : bs.length ≤ c) (l : Nat) (hk : l ≤ bs.length) :
    okYM M ⟨some ⟨b, if c = l then o else o + l * 1, none⟩, c - l, bs.drop l⟩ := by
  have h1 := SlM.from2 (l := l) h (by omega) hc
  unfold okYM
  dsimp only
  rw [List.length_drop, List.map_drop]
  simp only [Nat.mul_one] at h1 ⊢; exact h1
def bodF (p : List UInt8) : List UInt8 := lowB 2 p.length ++ p
def frB (p : List UInt8) : List UInt8 := lowB 4 (crcB (bodF p)) ++ bodF p
theorem frB_len (p : List UInt8) : (frB p).length = 6 + p.length := by
  unfold frB bodF; rw [List.length_append, List.length_append, lowB_len, lowB_len]; omega
def nxN (p : List UInt8) : Nat := numL ((p.drop 4).take 2)
def nxE (p : List UInt8) : Int := if p.length < 6 then 2 else if 4096 < nxN p then 3 else if p.length - 6 < nxN p then 2 else if crcB ((p.drop 4).take (2 + nxN p)) ≠ numL (p.take 4) then 5 else 0
def nxB (p : List UInt8) : List UInt8 := (p.drop 6).take (nxN p)
def nxR (p : List UInt8) : List UInt8 := p.drop (6 + nxN p)
theorem nxE_ok {p : List UInt8} (h : nxE p = 0) : 6 ≤ p.length ∧ nxN p ≤ 4096 ∧ 6 + nxN p ≤ p.length ∧ crcB ((p.drop 4).take (2 + nxN p)) = numL (p.take 4) := by
  unfold nxE at h
  split at h
  · cases h
  split at h
  · cases h
  split at h
  · cases h
  split at h
  · cases h
  · rename_i h1 h2 h3 h4
    exact ⟨by omega, by omega, by omega, Decidable.not_not.1 h4⟩
theorem nxB_len {p : List UInt8} (h : nxE p = 0) : (nxB p).length = nxN p := by
  have := nxE_ok h
  unfold nxB; rw [List.length_take, List.length_drop]; omega
theorem nx_fr (p r : List UInt8) (hp : p.length ≤ 4096) : nxE (frB p ++ r) = 0 ∧ nxB (frB p ++ r) = p ∧ nxR (frB p ++ r) = r ∧ nxN (frB p ++ r) = p.length := by
  have l4 := lowB_len 4 (crcB (bodF p))
  have l2 := lowB_len 2 p.length
  have e4 : (frB p ++ r).drop 4 = lowB 2 p.length ++ (p ++ r) := by
    unfold frB
    rw [List.append_assoc, List.drop_left' l4]
    unfold bodF
    rw [List.append_assoc]
  have eN : nxN (frB p ++ r) = p.length := by
    unfold nxN
    rw [e4, List.take_left' l2, numL_low 2 _ (by omega)]
  have e6 : (frB p ++ r).drop 6 = p ++ r := by
    rw [show 6 = 4 + 2 from rfl, ← List.drop_drop, e4, List.drop_left' l2]
  have hl : (frB p ++ r).length = 6 + p.length + r.length := by rw [List.length_append, frB_len]
  refine ⟨?_, ?_, ?_, eN⟩
  · unfold nxE
    rw [if_neg (by omega), eN, if_neg (by omega), if_neg (by omega), if_neg]
    rw [Decidable.not_not, e4, ← List.append_assoc, List.take_left' (by rw [List.length_append, l2])]
    have : (frB p ++ r).take 4 = lowB 4 (crcB (bodF p)) := by
      unfold frB
      rw [List.append_assoc, List.take_left' l4]
    rw [this, numL_low 4 _ (by have := crcB_lt (bodF p); omega)]
    rfl
  · unfold nxB
    rw [e6, eN, List.take_left]
  · unfold nxR
    rw [eN, ← List.drop_drop, e6, List.drop_left]
end Go.SX
namespace Go.Proofs.YtkleenllkjodoaaGreatDoor
open Go Go.SX
attribute [local irreducible] swp opsS thenS blockS retS CallsS St Ent YieldS anyS drawS
def frmR (M : Nat → Option Obj) (L0 : List HP) (bs : List UInt8) (r : Value) (L' : List HP) : Prop := ∃ v : YB, ∃ M', r = .tuple #[v.val, .int .i64 (if 4096 < bs.length then 3 else 0)] ∧ v.bs = (if 4096 < bs.length then [] else frB bs) ∧ okYM M' v ∧ v.bs.length ≤ v.c ∧ leM M M' ∧ L' = roM M' :: L0
set_option maxHeartbeats 2000000 in
theorem Frame_spec (a : Option Addr) (c : Nat) (vs : List YB) (M : Nat → Option Obj) (L L0 : List HP) [hP : PickM L M L0] (h : RdS L a vs.length 1 (vs.flatMap YB.cells)) (hv : ∀ v ∈ vs, okY L v) (hT : NibM M) (hc : vs.length ≤ c) (hn : vs.length ≤ 1000000) (hb : (catY vs).length ≤ 100000000000000) :
    CallsS Tryz.prog 40 [.slice a vs.length c] L (frmR M L0 (catY vs)) := by
  refine CallsS.of_body Tryz.func40 rfl rfl rfl ?_
  refine Q.r ?_; (repeat (intro b1; refine Q.r ?_))
  refine S.cr rfl (Join_spec a c vs M L L0 h hv hc hn hb) ?_
  rintro _ _ ⟨v, M1, rfl, hj, hjo, hjc, hl1, rfl⟩
  rw [← hj] at *
  have hT1 := hT.mono hl1
  by_cases hbig : 4096 < v.bs.length
  · refine Q.r ?_; (repeat (intro b1; refine Q.r ?_))
    refine N.r2 (RV.tmp rfl (RV.tmp rfl RV.nil)) (Ent.refl _) ⟨⟨none, 0, []⟩, M1, by rw [if_pos hbig]; rfl, by rw [if_pos hbig], SlM.nil, Nat.le_refl _, hl1, rfl⟩
  · refine Q.r ?_; (repeat (intro b1; refine Q.r ?_))
    refine S.y (Y.cv8 rfl) ?_
    refine Q.r ?_; (repeat (intro b1; refine Q.r ?_))
    refine S.y (Y.shr rfl rfl (by decide)) ?_
    refine S.y (Y.cv8 rfl) ?_
    refine Q.r ?_; (repeat (intro b1; refine Q.r ?_))
    rename_i b2
    let w1 : YB := ⟨some ⟨b2, 0, none⟩, 2, lowB 2 v.bs.length⟩
    refine S.cr rfl (Sum_spec (some ⟨b1, 0, none⟩) 2 [w1, v] _ (RdS.row1y rfl) ?_ (NibM.rd hT1) (by simp) ?_) ?_
    · intro u hu
      rcases List.mem_cons.1 hu with rfl | hu
      · exact RdS.row1y rfl
      · rw [List.mem_singleton.1 hu]; exact hjo.rd
    · simp [catY, w1, lowB_len]; omega
    rintro _ _ ⟨rfl, rfl⟩
    rw [show catY [w1, v] = bodF v.bs from by simp [catY, w1, bodF]]
    have hcc : frB v.bs = lowB 4 (crcB (bodF v.bs)) ++ (lowB 2 v.bs.length ++ v.bs) := rfl
    generalize crcB (bodF v.bs) = cc at hcc ⊢
    refine Q.r ?_; (repeat (intro b1; refine Q.r ?_))
    refine S.y (Y.cv8 rfl) ?_
    refine Q.r ?_; (repeat (intro b1; refine Q.r ?_))
    refine S.y (Y.shr rfl rfl (by decide)) ?_
    refine S.y (Y.cv8 rfl) ?_
    refine Q.r ?_; (repeat (intro b1; refine Q.r ?_))
    refine S.y (Y.shr rfl rfl (by decide)) ?_
    refine S.y (Y.cv8 rfl) ?_
    refine Q.r ?_; (repeat (intro b1; refine Q.r ?_))
    refine S.y (Y.shr rfl rfl (by decide)) ?_
    refine S.y (Y.cv8 rfl) ?_
    refine Q.r ?_; (repeat (intro b1; refine Q.r ?_))
    rename_i b4 
    let w2 : YB := ⟨some ⟨b4, 0, none⟩, 4, lowB 4 cc⟩
    have hw : catY [w2, w1, v] = frB v.bs := by rw [hcc]; simp [catY, w1, w2]
    refine S.cr rfl (Join_spec (some ⟨b1, 0, none⟩) 3 [w2, w1, v] M1 _ _ (RdS.row1y rfl) ?_ (Nat.le_refl _) (by simp) (by rw [hw, frB_len]; omega)) ?_
    · intro u hu
      rcases List.mem_cons.1 hu with rfl | hu
      · show RdS _ (some ⟨b4, 0, none⟩) 4 1 ((lowB 4 cc).map B)
        rw [low4]; exact RdS.row1y rfl
      rcases List.mem_cons.1 hu with rfl | hu
      · exact RdS.row1y rfl
      · rw [List.mem_singleton.1 hu]; exact hjo.rd
    rintro _ _ ⟨u, M2, rfl, hu, huo, huc, hl2, rfl⟩
    refine Q.r ?_; (repeat (intro b1; refine Q.r ?_))
    refine N.r2 (RV.tmp rfl (RV.tmp rfl RV.nil)) ?_ ⟨u, M2, by rw [if_neg hbig], by rw [if_neg hbig, hu, hw], huo, by rw [hu]; exact huc, hl1.trans hl2, rfl⟩
    repeat (first | exact Ent.refl _ | exact Ent.nil | refine Ent.pick ?_ | refine Ent.nilS ?_ | refine Ent.nilM ?_ | refine Ent.drop ?_)
def nxR' (M : Nat → Option Obj) (L0 : List HP) (p : List UInt8) (r : Value) (L' : List HP) : Prop := ∃ v w : YB, ∃ M', r = .tuple #[v.val, w.val, .int .i64 (nxE p)] ∧ v.bs = (if nxE p = 0 then nxB p else []) ∧ w.bs = (if nxE p = 0 then nxR p else []) ∧ okYM M' v ∧ okYM M' w ∧ v.bs.length ≤ v.c ∧ w.bs.length ≤ w.c ∧ leM M M' ∧ L' = roM M' :: L0
set_option maxHeartbeats 2000000 in
theorem SNext_spec (a : Option Addr) (c : Nat) (bs : List UInt8) (M : Nat → Option Obj) (L0 : List HP) (h : SlM M a bs.length 1 (bs.map B)) (hT : NibM M) (hc : bs.length ≤ c) (hb : bs.length ≤ 100000000000) :
    CallsS Tryz.prog 67 [.slice a bs.length c] (roM M :: L0) (nxR' M L0 bs) := by
  refine CallsS.of_body Tryz.func67 rfl rfl rfl ?_
  by_cases h6 : bs.length < 6
  · refine Q.r ?_; (repeat (intro b1; refine Q.r ?_))
    have e : nxE bs = 2 := by unfold nxE; rw [if_pos h6]
    exact N.r3 (RV.tmp rfl (RV.tmp rfl (RV.tmp rfl RV.nil))) (Ent.refl _) ⟨⟨none, 0, []⟩, ⟨none, 0, []⟩, M, by rw [e]; rfl, by rw [e]; rfl, by rw [e]; rfl, SlM.nil, SlM.nil, Nat.le_refl _, Nat.le_refl _, leM.refl _, rfl⟩
  have hrd : RdS (roM M :: L0) a bs.length 1 (bs.map B) := SlM.rd h
  obtain ⟨b, o, rfl, hr⟩ := hrd.2.resolve_left (by omega)
  obtain ⟨x0, x1, x2, x3, x4, x5, tl, rfl⟩ : ∃ x0 x1 x2 x3 x4 x5 tl, bs = x0 :: x1 :: x2 :: x3 :: x4 :: x5 :: tl := by
    match bs, h6 with
    | x0 :: x1 :: x2 :: x3 :: x4 :: x5 :: tl, _ => exact ⟨x0, x1, x2, x3, x4, x5, tl, rfl⟩
    | [], h => exact absurd (by simp) h
    | [_], h => exact absurd (by simp) h
    | [_, _], h => exact absurd (by simp) h
    | [_, _, _], h => exact absurd (by simp) h
    | [_, _, _, _], h => exact absurd (by simp) h
    | [_, _, _, _, _], h => exact absurd (by simp) h
  have hrA : RdC (roM M :: []) b o ((x0 :: x1 :: x2 :: x3 :: x4 :: x5 :: tl).map B) := by
    have h2 : RdS (roM M :: []) (some ⟨b, o, none⟩) _ 1 _ := SlM.rd h
    rcases h2.2 with h3 | ⟨b', o', e, r⟩
    · cases h3
    · cases e; exact r
  have hx0 := x0.toNat_lt
  have hx1 := x1.toNat_lt
  have hx2 := x2.toNat_lt
  have hx3 := x3.toNat_lt
  have hx4 := x4.toNat_lt
  have hx5 := x5.toNat_lt
  refine Q.r ?_; (repeat (intro b1; refine Q.r ?_))
  refine Q.dgo [true] [] [] [0, 1, 2, 3, 4, 5, 6, 7, 8, 9, 10] ?_
  repeat (first | refine Q.dyn rfl rfl rfl ?_ | refine Q.dyl rfl rfl rfl ?_ | refine D.y rfl rfl rfl (by kernel_rfl) (by first | exact (Y.ldRj rfl (by first | assumption | exact RdC.sub (by assumption)) rfl) | exact Y.guard rfl (Y.ldRj rfl (by first | assumption | exact RdC.sub (by assumption)) rfl)) ?_ | refine D.endA ?_ | refine Q.dy rfl rfl rfl ?_ | refine Q.dp rfl rfl rfl ?_ | refine D.end_ ?_ | refine Q.endH ?_ | (refine D.e rfl rfl rfl ?_; (first | refine S.gskip1 rfl ?_ | refine S.gskip rfl ?_ | refine S.y (Y.gskipU rfl) ?_); refine opsS_nil ?_; refine N.tn ?_) | refine Q.dT rfl rfl rfl ?_ | refine Q.dF rfl rfl rfl ?_ | (refine D.e rfl rfl rfl ?_; (first | (refine GQ.a ?_; refine Q.al (fun b1 => ?_)) | (refine GQ.s ?_; refine Q.st ?_)); refine opsS_nil ?_; refine N.tn ?_))
  refine D.yp rfl rfl rfl (Y.cv64 (a := x4.toNat) rfl (by omega)) ?_
  repeat (first | refine Q.dyn rfl rfl rfl ?_ | refine Q.dyl rfl rfl rfl ?_ | refine D.y rfl rfl rfl (by kernel_rfl) (by first | exact (Y.ldRj rfl (by first | assumption | exact RdC.sub (by assumption)) rfl) | exact Y.guard rfl (Y.ldRj rfl (by first | assumption | exact RdC.sub (by assumption)) rfl)) ?_ | refine D.endA ?_ | refine Q.dy rfl rfl rfl ?_ | refine Q.dp rfl rfl rfl ?_ | refine D.end_ ?_ | refine Q.endH ?_ | (refine D.e rfl rfl rfl ?_; (first | refine S.gskip1 rfl ?_ | refine S.gskip rfl ?_ | refine S.y (Y.gskipU rfl) ?_); refine opsS_nil ?_; refine N.tn ?_) | refine Q.dT rfl rfl rfl ?_ | refine Q.dF rfl rfl rfl ?_ | (refine D.e rfl rfl rfl ?_; (first | (refine GQ.a ?_; refine Q.al (fun b1 => ?_)) | (refine GQ.s ?_; refine Q.st ?_)); refine opsS_nil ?_; refine N.tn ?_))
  refine D.yp rfl rfl rfl (Y.cv64 (a := x5.toNat) rfl (by omega)) ?_
  refine D.yp rfl rfl rfl (Y.shl64 (a := x5.toNat) (b := 8) rfl rfl (by decide) (by omega)) ?_
  refine D.yp rfl rfl rfl (Y.or64 (a := x4.toNat) (b := x5.toNat) (m := 8) rfl rfl (by omega) (by omega)) ?_
  repeat (first | refine Q.dyn rfl rfl rfl ?_ | refine Q.dyl rfl rfl rfl ?_ | refine D.y rfl rfl rfl (by kernel_rfl) (by first | exact (Y.ldRj rfl (by first | assumption | exact RdC.sub (by assumption)) rfl) | exact Y.guard rfl (Y.ldRj rfl (by first | assumption | exact RdC.sub (by assumption)) rfl)) ?_ | refine D.endA ?_ | refine Q.dy rfl rfl rfl ?_ | refine Q.dp rfl rfl rfl ?_ | refine D.end_ ?_ | refine Q.endH ?_ | (refine D.e rfl rfl rfl ?_; (first | refine S.gskip1 rfl ?_ | refine S.gskip rfl ?_ | refine S.y (Y.gskipU rfl) ?_); refine opsS_nil ?_; refine N.tn ?_) | refine Q.dT rfl rfl rfl ?_ | refine Q.dF rfl rfl rfl ?_ | (refine D.e rfl rfl rfl ?_; (first | (refine GQ.a ?_; refine Q.al (fun b1 => ?_)) | (refine GQ.s ?_; refine Q.st ?_)); refine opsS_nil ?_; refine N.tn ?_))
  have hnn : x4.toNat + x5.toNat * 2 ^ 8 = nxN (x0 :: x1 :: x2 :: x3 :: x4 :: x5 :: tl) := by
    show _ = (0 * 256 + x5.toNat) * 256 + x4.toNat
    omega
  have hn8 : x4.toNat + x5.toNat * 2 ^ 8 < 65536 := by omega
  rw [hnn] at hn8 ⊢
  have hw4 : numL ((x0 :: x1 :: x2 :: x3 :: x4 :: x5 :: tl).take 4) = x0.toNat + x1.toNat * 2 ^ 8 + x2.toNat * 2 ^ 16 + x3.toNat * 2 ^ 24 := by
    show (((0 * 256 + x3.toNat) * 256 + x2.toNat) * 256 + x1.toNat) * 256 + x0.toNat = _
    omega
  have hE : nxE (x0 :: x1 :: x2 :: x3 :: x4 :: x5 :: tl) = if 4096 < nxN (x0 :: x1 :: x2 :: x3 :: x4 :: x5 :: tl) then 3 else if (x0 :: x1 :: x2 :: x3 :: x4 :: x5 :: tl).length - 6 < nxN (x0 :: x1 :: x2 :: x3 :: x4 :: x5 :: tl) then 2 else if crcB (((x0 :: x1 :: x2 :: x3 :: x4 :: x5 :: tl).drop 4).take (2 + nxN (x0 :: x1 :: x2 :: x3 :: x4 :: x5 :: tl))) ≠ numL ((x0 :: x1 :: x2 :: x3 :: x4 :: x5 :: tl).take 4) then 5 else 0 := by
    conv => lhs; unfold nxE
    rw [if_neg h6]
  have hnB : nxB (x0 :: x1 :: x2 :: x3 :: x4 :: x5 :: tl) = ((x0 :: x1 :: x2 :: x3 :: x4 :: x5 :: tl).drop 6).take (nxN (x0 :: x1 :: x2 :: x3 :: x4 :: x5 :: tl)) := rfl
  have hnR : nxR (x0 :: x1 :: x2 :: x3 :: x4 :: x5 :: tl) = (x0 :: x1 :: x2 :: x3 :: x4 :: x5 :: tl).drop (6 + nxN (x0 :: x1 :: x2 :: x3 :: x4 :: x5 :: tl)) := rfl
  generalize nxN (x0 :: x1 :: x2 :: x3 :: x4 :: x5 :: tl) = nn at *
  have hno : ∀ e : Int, e ≠ 0 → nxE (x0 :: x1 :: x2 :: x3 :: x4 :: x5 :: tl) = e → nxR' M L0 (x0 :: x1 :: x2 :: x3 :: x4 :: x5 :: tl) (.tuple #[.slice none 0 0, .slice none 0 0, .int .i64 e]) (roM M :: L0) := fun e he hq =>
    ⟨⟨none, 0, []⟩, ⟨none, 0, []⟩, M, by rw [hq]; rfl, by rw [hq, if_neg he], by rw [hq, if_neg he], SlM.nil, SlM.nil, Nat.le_refl _, Nat.le_refl _, leM.refl _, rfl⟩
  by_cases h4 : 4096 < nn
  · rw [if_pos h4] at hE
    refine Q.r ?_; (repeat (intro b1; refine Q.r ?_))
    exact N.r3 (RV.tmp rfl (RV.tmp rfl (RV.tmp rfl RV.nil))) (Ent.refl _) (hno 3 (by decide) hE)
  rw [if_neg h4] at hE
  by_cases h5 : (x0 :: x1 :: x2 :: x3 :: x4 :: x5 :: tl).length - 6 < nn
  · rw [if_pos h5] at hE
    refine Q.r ?_; (repeat (intro b1; refine Q.r ?_))
    exact N.r3 (RV.tmp rfl (RV.tmp rfl (RV.tmp rfl RV.nil))) (Ent.refl _) (hno 2 (by decide) hE)
  rw [if_neg h5] at hE
  refine Q.r ?_; (repeat (intro b1; refine Q.r ?_))
  refine Q.dgo [true] [] [] [0, 1, 2, 3, 4, 5, 6, 7, 8, 9, 10, 11, 12, 13, 14, 15, 16, 17, 18, 19, 20, 21, 22] ?_
  repeat (first | refine Q.dyn rfl rfl rfl ?_ | refine Q.dyl rfl rfl rfl ?_ | refine D.y rfl rfl rfl (by kernel_rfl) (by first | exact (Y.ldRj rfl (by first | assumption | exact RdC.sub (by assumption)) rfl) | exact Y.guard rfl (Y.ldRj rfl (by first | assumption | exact RdC.sub (by assumption)) rfl)) ?_ | refine D.endA ?_ | refine Q.dy rfl rfl rfl ?_ | refine Q.dp rfl rfl rfl ?_ | refine D.end_ ?_ | refine Q.endH ?_ | (refine D.e rfl rfl rfl ?_; (first | refine S.gskip1 rfl ?_ | refine S.gskip rfl ?_ | refine S.y (Y.gskipU rfl) ?_); refine opsS_nil ?_; refine N.tn ?_) | refine Q.dT rfl rfl rfl ?_ | refine Q.dF rfl rfl rfl ?_ | (refine D.e rfl rfl rfl ?_; (first | (refine GQ.a ?_; refine Q.al (fun b1 => ?_)) | (refine GQ.s ?_; refine Q.st ?_)); refine opsS_nil ?_; refine N.tn ?_))
  refine D.yp rfl rfl rfl (Y.cv32 (a := x0.toNat) rfl (by omega)) ?_
  repeat (first | refine Q.dyn rfl rfl rfl ?_ | refine Q.dyl rfl rfl rfl ?_ | refine D.y rfl rfl rfl (by kernel_rfl) (by first | exact (Y.ldRj rfl (by first | assumption | exact RdC.sub (by assumption)) rfl) | exact Y.guard rfl (Y.ldRj rfl (by first | assumption | exact RdC.sub (by assumption)) rfl)) ?_ | refine D.endA ?_ | refine Q.dy rfl rfl rfl ?_ | refine Q.dp rfl rfl rfl ?_ | refine D.end_ ?_ | refine Q.endH ?_ | (refine D.e rfl rfl rfl ?_; (first | refine S.gskip1 rfl ?_ | refine S.gskip rfl ?_ | refine S.y (Y.gskipU rfl) ?_); refine opsS_nil ?_; refine N.tn ?_) | refine Q.dT rfl rfl rfl ?_ | refine Q.dF rfl rfl rfl ?_ | (refine D.e rfl rfl rfl ?_; (first | (refine GQ.a ?_; refine Q.al (fun b1 => ?_)) | (refine GQ.s ?_; refine Q.st ?_)); refine opsS_nil ?_; refine N.tn ?_))
  refine D.yp rfl rfl rfl (Y.cv32 (a := x1.toNat) rfl (by omega)) ?_
  refine D.yp rfl rfl rfl (Y.shl32 (a := x1.toNat) (b := 8) rfl rfl (by decide) (by omega)) ?_
  refine D.yp rfl rfl rfl (Y.or32a (a := x0.toNat) (b := x1.toNat) (m := 8) rfl rfl (by omega) (by omega)) ?_
  repeat (first | refine Q.dyn rfl rfl rfl ?_ | refine Q.dyl rfl rfl rfl ?_ | refine D.y rfl rfl rfl (by kernel_rfl) (by first | exact (Y.ldRj rfl (by first | assumption | exact RdC.sub (by assumption)) rfl) | exact Y.guard rfl (Y.ldRj rfl (by first | assumption | exact RdC.sub (by assumption)) rfl)) ?_ | refine D.endA ?_ | refine Q.dy rfl rfl rfl ?_ | refine Q.dp rfl rfl rfl ?_ | refine D.end_ ?_ | refine Q.endH ?_ | (refine D.e rfl rfl rfl ?_; (first | refine S.gskip1 rfl ?_ | refine S.gskip rfl ?_ | refine S.y (Y.gskipU rfl) ?_); refine opsS_nil ?_; refine N.tn ?_) | refine Q.dT rfl rfl rfl ?_ | refine Q.dF rfl rfl rfl ?_ | (refine D.e rfl rfl rfl ?_; (first | (refine GQ.a ?_; refine Q.al (fun b1 => ?_)) | (refine GQ.s ?_; refine Q.st ?_)); refine opsS_nil ?_; refine N.tn ?_))
  refine D.yp rfl rfl rfl (Y.cv32 (a := x2.toNat) rfl (by omega)) ?_
  refine D.yp rfl rfl rfl (Y.shl32 (a := x2.toNat) (b := 16) rfl rfl (by decide) (by omega)) ?_
  refine D.yp rfl rfl rfl (Y.or32a (a := x0.toNat + x1.toNat * 2 ^ 8) (b := x2.toNat) (m := 16) rfl rfl (by omega) (by omega)) ?_
  repeat (first | refine Q.dyn rfl rfl rfl ?_ | refine Q.dyl rfl rfl rfl ?_ | refine D.y rfl rfl rfl (by kernel_rfl) (by first | exact (Y.ldRj rfl (by first | assumption | exact RdC.sub (by assumption)) rfl) | exact Y.guard rfl (Y.ldRj rfl (by first | assumption | exact RdC.sub (by assumption)) rfl)) ?_ | refine D.endA ?_ | refine Q.dy rfl rfl rfl ?_ | refine Q.dp rfl rfl rfl ?_ | refine D.end_ ?_ | refine Q.endH ?_ | (refine D.e rfl rfl rfl ?_; (first | refine S.gskip1 rfl ?_ | refine S.gskip rfl ?_ | refine S.y (Y.gskipU rfl) ?_); refine opsS_nil ?_; refine N.tn ?_) | refine Q.dT rfl rfl rfl ?_ | refine Q.dF rfl rfl rfl ?_ | (refine D.e rfl rfl rfl ?_; (first | (refine GQ.a ?_; refine Q.al (fun b1 => ?_)) | (refine GQ.s ?_; refine Q.st ?_)); refine opsS_nil ?_; refine N.tn ?_))
  refine D.yp rfl rfl rfl (Y.cv32 (a := x3.toNat) rfl (by omega)) ?_
  refine D.yp rfl rfl rfl (Y.shl32 (a := x3.toNat) (b := 24) rfl rfl (by decide) (by omega)) ?_
  refine D.yp rfl rfl rfl (Y.or32a (a := x0.toNat + x1.toNat * 2 ^ 8 + x2.toNat * 2 ^ 16) (b := x3.toNat) (m := 24) rfl rfl (by omega) (by omega)) ?_
  repeat (first | refine Q.dyn rfl rfl rfl ?_ | refine Q.dyl rfl rfl rfl ?_ | refine D.y rfl rfl rfl (by kernel_rfl) (by first | exact (Y.ldRj rfl (by first | assumption | exact RdC.sub (by assumption)) rfl) | exact Y.guard rfl (Y.ldRj rfl (by first | assumption | exact RdC.sub (by assumption)) rfl)) ?_ | refine D.endA ?_ | refine Q.dy rfl rfl rfl ?_ | refine Q.dp rfl rfl rfl ?_ | refine D.end_ ?_ | refine Q.endH ?_ | (refine D.e rfl rfl rfl ?_; (first | refine S.gskip1 rfl ?_ | refine S.gskip rfl ?_ | refine S.y (Y.gskipU rfl) ?_); refine opsS_nil ?_; refine N.tn ?_) | refine Q.dT rfl rfl rfl ?_ | refine Q.dF rfl rfl rfl ?_ | (refine D.e rfl rfl rfl ?_; (first | (refine GQ.a ?_; refine Q.al (fun b1 => ?_)) | (refine GQ.s ?_; refine Q.st ?_)); refine opsS_nil ?_; refine N.tn ?_))
  rw [← hw4]
  have hlen : 6 ≤ (x0 :: x1 :: x2 :: x3 :: x4 :: x5 :: tl).length := by simp
  clear hrA hx0 hx1 hx2 hx3 hx4 hx5 hw4 h6
  generalize x0 :: x1 :: x2 :: x3 :: x4 :: x5 :: tl = bs at *
  refine Q.r ?_; (repeat (intro b1; refine Q.r ?_))
  refine S.y (Y.slB (l := 4) (h := 6 + nn) rfl rfl rfl rfl (by omega) (by omega) (by omega)) ?_
  have hb4 := okYM.cut h hc 4 (2 + nn) (by omega)
  have el : 6 + nn - 4 = ((bs.drop 4).take (2 + nn)).length := by rw [List.length_take, List.length_drop]; omega
  rw [el]
  refine Q.r ?_; (repeat (intro b1; refine Q.r ?_))
  refine S.cr rfl (Sum_spec (some ⟨b1, 0, none⟩) 1 [⟨some ⟨b, if c = 4 then o else o + 4 * 1, none⟩, c - 4, (bs.drop 4).take (2 + nn)⟩] _ (RdS.row1y rfl) ?_ (NibM.rd hT) (by simp) ?_) ?_
  · intro u hu
    rw [List.mem_singleton.1 hu]; exact hb4.rd
  · simp [catY]; omega
  rintro _ _ ⟨rfl, rfl⟩
  have ec : catY [⟨some ⟨b, if c = 4 then o else o + 4 * 1, none⟩, c - 4, (bs.drop 4).take (2 + nn)⟩] = (bs.drop 4).take (2 + nn) := by simp [catY]
  rw [ec]
  have hs1 := crcB_lt ((bs.drop 4).take (2 + nn))
  by_cases h7 : crcB ((bs.drop 4).take (2 + nn)) ≠ numL (bs.take 4)
  · rw [if_pos h7] at hE
    refine Q.r ?_; (repeat (intro b1; refine Q.r ?_))
    exact N.r3 (RV.tmp rfl (RV.tmp rfl (RV.tmp rfl RV.nil))) (Ent.drop (Ent.refl _)) (hno 5 (by decide) hE)
  rw [if_neg h7] at hE
  refine Q.r ?_; (repeat (intro b1; refine Q.r ?_))
  refine Q.dgo [] [4, 9] [] [0, 1, 2, 3, 5, 6, 7, 8, 4, 9, 10, 11, 12] ?_
  refine Q.rd ?_; (repeat (intro b1; refine Q.rd ?_))
  refine D.yp rfl rfl rfl (Y.slB (l := 6) (h := 6 + nn) rfl rfl rfl rfl (by omega) (by omega) (by omega)) ?_
  have hb6 := okYM.cut h hc 6 nn (by omega)
  have hbt := okYM.tail h hc (6 + nn) (by omega)
  have el6 : 6 + nn - 6 = ((bs.drop 6).take nn).length := by rw [List.length_take, List.length_drop]; omega
  have elt : bs.length - (6 + nn) = (bs.drop (6 + nn)).length := by rw [List.length_drop]
  rw [el6]
  refine Q.rd ?_; (repeat (intro b1; refine Q.rd ?_))
  refine D.yp rfl rfl rfl (Y.slF (l := 6 + nn) rfl rfl (by omega) (by omega)) ?_
  rw [elt]
  refine Q.rd ?_; (repeat (intro b1; refine Q.rd ?_))
  refine D.e rfl rfl rfl ?_
  refine S.cr rfl (Clone_spec _ _ ((bs.drop 6).take nn) M _ _ hb6.rd (by omega)) ?_
  rintro _ _ ⟨v, M1, rfl, hv, hvo, hvc, hl1, rfl⟩
  refine Q.r ?_; (repeat (intro b1; refine Q.r ?_))
  refine Q.rd ?_; (repeat (intro b1; refine Q.rd ?_))
  refine D.e rfl rfl rfl ?_
  refine S.cr rfl (Clone_spec _ _ (bs.drop (6 + nn)) M1 _ _ (hbt.mono hl1).rd (by omega)) ?_
  rintro _ _ ⟨w, M2, rfl, hw, hwo, hwc, hl2, rfl⟩
  refine Q.r ?_; (repeat (intro b1; refine Q.r ?_))
  refine Q.rd ?_; (repeat (intro b1; refine Q.rd ?_))
  refine Q.r ?_; (repeat (intro b1; refine Q.r ?_))
  refine N.r3 (RV.tmp rfl (RV.tmp rfl (RV.tmp rfl RV.nil))) ?_ ⟨v, w, M2, by rw [hE], by rw [hE, if_pos rfl, hnB, hv], by rw [hE, if_pos rfl, hnR, hw], hvo.mono hl2, hwo, by rw [hv]; exact hvc, by rw [hw]; exact hwc, hl1.trans hl2, rfl⟩
  repeat (first | exact Ent.refl _ | exact Ent.nil | refine Ent.pick ?_ | refine Ent.nilS ?_ | refine Ent.nilM ?_ | refine Ent.drop ?_)
end Go.Proofs.YtkleenllkjodoaaGreatDoor
namespace Go.Proofs.YtkleenllkjodoaaGreatDoor
open Go Go.SX
attribute [local irreducible] swp opsS thenS blockS retS CallsS St Ent YieldS anyS drawS
theorem nxR_lt {p : List UInt8} (h : nxE p = 0) : (nxR p).length < p.length := by
  have := nxE_ok h
  unfold nxR; rw [List.length_drop]; omega
def allF (p : List UInt8) : List (List UInt8) := if h : nxE p = 0 then nxB p :: allF (nxR p) else []
termination_by p.length
decreasing_by exact nxR_lt h
theorem allF_ok {p : List UInt8} (h : nxE p = 0) : allF p = nxB p :: allF (nxR p) := by rw [allF, dif_pos h]
theorem allF_no {p : List UInt8} (h : nxE p ≠ 0) : allF p = [] := by rw [allF, dif_neg h]
def frsL (l : List (List UInt8)) : Nat := (l.map fun b => 6 + b.length).sum
theorem frsL_app (a b : List (List UInt8)) : frsL (a ++ b) = frsL a + frsL b := by simp [frsL]
def okYs (M : Nat → Option Obj) (vs : List YB) : Prop := ∀ v ∈ vs, okYM M v ∧ v.bs.length ≤ v.c
theorem okYs.mono {M M' : Nat → Option Obj} {vs : List YB} (h : okYs M vs) (hl : leM M M') : okYs M' vs := fun v hv => ⟨(h v hv).1.mono hl, (h v hv).2⟩
theorem frsL_ge : ∀ l : List (List UInt8), l.length ≤ frsL l
  | [] => Nat.le_refl _
  | b :: l => by
    have := frsL_ge l
    show l.length + 1 ≤ 6 + b.length + frsL l
    omega
theorem frsL_one (b : List UInt8) : frsL [b] = 6 + b.length := by simp [frsL]
def rowsR (M : Nat → Option Obj) (L0 : List HP) (l : List (List UInt8)) (a : Option Addr) (c : Nat) (L' : List HP) : Prop := ∃ vs M', vs.map YB.bs = l ∧ okYs M' vs ∧ leM M M' ∧ L' = slO 31 1 a vs.length c (vs.flatMap YB.cells) :: roM M' :: L0
set_option maxHeartbeats 2000000 in
theorem SAll_spec (a : Option Addr) (c : Nat) (bs : List UInt8) (M : Nat → Option Obj) (L0 : List HP) (h : SlM M a bs.length 1 (bs.map B)) (hT : NibM M) (hc : bs.length ≤ c) (hb : bs.length ≤ 100000000000) :
    CallsS Tryz.prog 66 [.slice a bs.length c] (roM M :: L0) (fun r L' => ∃ a' c', r = .tuple #[.slice a' (allF bs).length c', .int .i64 (frsL (allF bs))] ∧ rowsR M L0 (allF bs) a' c' L') := by
  refine CallsS.of_body Tryz.func66 rfl rfl rfl ?_
  refine Q.r ?_; (repeat (intro b1; refine Q.r ?_))
  refine swp_loop (σ := List YB × (Nat → Option Obj) × Option Addr × Nat) (fun s => [(0, .slice a bs.length c), (4, .slice s.2.2.1 s.1.length s.2.2.2), (5, .int .i64 (frsL (s.1.map YB.bs)))])
    (fun s => slO 31 1 s.2.2.1 s.1.length s.2.2.2 (s.1.flatMap YB.cells) :: roM s.2.1 :: L0)
    (fun s => frsL (s.1.map YB.bs) ≤ bs.length ∧ s.1.map YB.bs ++ allF (bs.drop (frsL (s.1.map YB.bs))) = allF bs ∧ okYs s.2.1 s.1 ∧ leM M s.2.1) (fun s => bs.length - frsL (s.1.map YB.bs)) ([], M, none, 0) ⟨rfl, rfl, rfl, trivial⟩ slO_nil ⟨Nat.zero_le _, rfl, (fun v hv => by cases hv), leM.refl _⟩ ?_
  rintro ⟨vs, M1, a1, c1⟩ ⟨hat, hall, hok, hl⟩
  dsimp only at *
  have hlen := frsL_ge (vs.map YB.bs)
  rw [List.length_map] at hlen
  have hT1 := hT.mono hl
  have h1 := h.mono hl
  have hsub := SlM.fromA (l := frsL (vs.map YB.bs)) h1 hat hc
  rw [Nat.mul_one, ← List.map_drop] at hsub
  have eln : bs.length - frsL (vs.map YB.bs) = (bs.drop (frsL (vs.map YB.bs))).length := by rw [List.length_drop]
  generalize hk : frsL (vs.map YB.bs) = k at *
  refine Q.r ?_; (repeat (intro b1; refine Q.r ?_))
  refine S.y (Y.slFa (l := k) rfl rfl rfl hat (SlM.at h1)) ?_
  rw [eln] at hsub ⊢
  refine S.cq (A := roM M1) rfl (SNext_spec _ (c - k) (bs.drop k) M1 _ hsub hT1 (by rw [List.length_drop]; omega) (by rw [List.length_drop]; omega)) ?_
  rintro _ _ ⟨v, w, M2, rfl, hv, hw, hvo, hwo, hvc, hwc, hl2, rfl⟩
  by_cases he : nxE (bs.drop k) = 0
  · rw [if_pos he] at hv hw
    have hn := nxE_ok he
    have hbl := nxB_len he
    rw [List.length_drop] at hn
    have hvl : v.bs.length = nxN (bs.drop k) := by rw [hv, hbl]
    refine Q.r ?_; (repeat (intro b1; refine Q.r ?_))
    refine S.app rfl rfl (SrcS.sl RdC.row (by rfl) (by rfl)) (by rfl) (by omega) (by omega) (fun a7 c7 => ?_)
    refine Q.r ?_; (repeat (intro b1; refine Q.r ?_))
    have hk2 : frsL ((vs ++ [v]).map YB.bs) = k + (6 + v.bs.length) := by rw [List.map_append, frsL_app, hk]; exact congrArg (k + ·) (frsL_one _)
    refine ⟨(vs ++ [v], M2, a7, c7), ⟨rfl, congrArg some (by simp), ?_, trivial⟩, ?_, ⟨?_, ?_, ?_, hl.trans hl2⟩, ?_⟩
    · rw [hk2]; exact congrArg some (congrArg (Value.int .i64) (by simp))
    · dsimp only
      rw [len_snoc, flat_snoc]
      repeat (first | exact Ent.refl _ | exact Ent.nil | refine Ent.pick ?_ | refine Ent.nilS ?_ | refine Ent.nilM ?_ | refine Ent.drop ?_)
    · dsimp only
      rw [hk2, hv, hbl]; omega
    · dsimp only
      rw [hk2, ← hall, allF_ok he, List.map_append, List.append_assoc]
      refine congrArg _ ?_
      rw [← List.drop_drop, hvl]
      show v.bs :: _ = _
      rw [hv]
      rfl
    · intro u hu
      rcases List.mem_append.1 hu with hu | hu
      · exact (hok.mono hl2) u hu
      · rw [List.mem_singleton.1 hu]; exact ⟨hvo, hvc⟩
    · dsimp only
      rw [hk2]; omega
  · refine Q.r ?_; (repeat (intro b1; refine Q.r ?_))
    have e : allF bs = vs.map YB.bs := by rw [← hall, allF_no he, List.append_nil]
    refine N.r2 (RV.tmp rfl (RV.tmp rfl RV.nil)) ?_ ⟨a1, c1, by rw [e, List.length_map, hk], vs, M2, e.symm, hok.mono hl2, hl.trans hl2, rfl⟩
    repeat (first | exact Ent.refl _ | exact Ent.nil | refine Ent.pick ?_ | refine Ent.nilS ?_ | refine Ent.nilM ?_ | refine Ent.drop ?_)
end Go.Proofs.YtkleenllkjodoaaGreatDoor
namespace Go.SX
open Go
section
variable {P : Program} {n : Nat} {ops rest : List Oper} {Q : Post} {f : Env} {A L : List HP} {d : Tmp} {ty : TypeId} {pos : String} {af : Array Edge}
theorem ext_str (l : List UInt8) (a b : Nat) (h1 : a ≤ b) (h2 : b ≤ l.length) : (⟨l.toArray⟩ : ByteArray).extract a b = ⟨((l.drop a).take (b - a)).toArray⟩ := by
  apply ByteArray.ext
  apply Array.ext'
  rw [ByteArray.data_extract]
  simp
theorem Y.stF {x lo : Operand} {t : TypeId} {bs : List UInt8} {l : Nat} {i : Int} {kl : IntKind} [hs : StrTy P t] (hx : ev f x = some (str bs)) (hl : ev f lo = some (.int kl i)) (el : i = (l : Int)) (h1 : l ≤ bs.length) :
    YieldS P n ops ⟨some d, .slice t x (some lo) none none, ty, pos, af, none⟩ f A (str (bs.drop l)) := by
  refine Y.of (fun ac w s => ?_)
  subst el
  have hx' := s.eval hx
  unfold str at hx' ⊢
  have e1 : (l : Int) ≤ (bs.length : Int) := by omega
  have es : (⟨bs.toArray⟩ : ByteArray).size = bs.length := by simp [ByteArray.size]
  have e3 : (bs.drop l).take (bs.length - l) = bs.drop l := List.take_of_length_le (by rw [List.length_drop]; exact Nat.le_refl _)
  simp [execOp, hx', s.eval hl, Instr.sliceAt, hs.und, Instr.slice, Instr.sliceBounds, Instr.sliceBound, asIntOf, es, h1, ext_str bs l bs.length h1 (Nat.le_refl _), e3]
theorem Y.stT {x hi : Operand} {t : TypeId} {bs : List UInt8} {h : Nat} {j : Int} {kh : IntKind} [hs : StrTy P t] (hx : ev f x = some (str bs)) (hh : ev f hi = some (.int kh j)) (eh : j = (h : Int)) (h2 : h ≤ bs.length) :
    YieldS P n ops ⟨some d, .slice t x none (some hi) none, ty, pos, af, none⟩ f A (str (bs.take h)) := by
  refine Y.of (fun ac w s => ?_)
  subst eh
  have hx' := s.eval hx
  unfold str at hx' ⊢
  have e2 : (h : Int) ≤ (bs.length : Int) := by omega
  have es : (⟨bs.toArray⟩ : ByteArray).size = bs.length := by simp [ByteArray.size]
  have e3 := ext_str bs 0 h (Nat.zero_le _) h2
  rw [List.drop_zero, Nat.sub_zero] at e3
  simp [execOp, hx', s.eval hh, Instr.sliceAt, hs.und, Instr.slice, Instr.sliceBounds, Instr.sliceBound, asIntOf, es, h2, e3]
theorem run_eqIn_nn {t : TypeId} {ms : Array (String × TypeId)} (m : Nat) (h : P.underlying t = some (.interface ms)) (w : World) : (Op.equalIn (m + 1) t .nilIface .nilIface).run P w = .ok true w := by
  simp [Op.equalIn, run_underlying h]
theorem Y.eqNN {x : Operand} {t t' : TypeId} {ms : Array (String × TypeId)} (hx : ev f x = some .nilIface) (hi : P.underlying t = some (.interface ms)) : YieldS P n ops ⟨some d, .binOp .eql t x (.const .nilIface) t', ty, pos, af, none⟩ f A (.bool true) := by
  refine Y.of (fun ac w s => ?_)
  have e : ac.eval (.const .nilIface) = .nilIface := rfl
  have e2 : (Op.equal t .nilIface .nilIface).run P w = .ok true w := by
    exact run_eqIn_nn 9999 hi w
  simp [execOp, s.eval hx, e, eqGuard, binOp, e2]
theorem Y.stA {x y : Operand} {t t' : TypeId} {a b : List UInt8} (hx : ev f x = some (str a)) (hy : ev f y = some (str b)) (hl : a.length + b.length ≤ 1000000) : YieldS P n ops ⟨some d, .binOp .add t x y t', ty, pos, af, none⟩ f A (str (a ++ b)) := by
  refine Y.of (fun ac w s => ?_)
  have h1 := s.eval hx
  have h2 := s.eval hy
  unfold str at h1 h2 ⊢
  have e : (⟨a.toArray⟩ ++ ⟨b.toArray⟩ : ByteArray) = ⟨(a ++ b).toArray⟩ := by
    apply ByteArray.ext
    simp [ByteArray.data_append]
  have ea : (⟨a.toArray⟩ : ByteArray).size = a.length := by simp [ByteArray.size]
  have eb : (⟨b.toArray⟩ : ByteArray).size = b.length := by simp [ByteArray.size]
  have hl2 : (a.length : Int) + (b.length : Int) ≤ 9223372036854775807 := by omega
  simp [execOp, h1, h2, eqGuard, binOp, Op.stringOp, e, ea, eb, hl2]
theorem Y.stL {x : Operand} {t : TypeId} {bs : List UInt8} [hs : StrTy P t] (hx : ev f x = some (str bs)) : YieldS P n ops ⟨some d, .call ⟨.builtin .len, #[x], #[t]⟩, ty, pos, af, none⟩ f A (.int .i64 bs.length) := by
  refine Y.of (fun ac w s => ?_)
  have h1 := s.eval hx
  unfold str at h1
  have es : (⟨bs.toArray⟩ : ByteArray).size = bs.length := by simp [ByteArray.size]
  simp [execOp, resolve, invoke, h1, builtin, Builtin.len_, hs.und, goInt, es]
theorem S.rgs {x : Operand} {t : TypeId} {bs : List UInt8} [hs : StrTy P t] (hx : ev f x = some (str bs))
    (hk : ∀ r, opsS P n ops rest Q (upd f d (.pointer (some ⟨r, 0, none⟩))) (pt r (.stringIter ⟨bs.toArray⟩ 0) :: L)) : opsS P n ops (⟨some d, .range t x, ty, pos, af, none⟩ :: rest) Q f L := by
  refine opsS_value (R := fun v L1 => ∃ r, v = .pointer (some ⟨r, 0, none⟩) ∧ L1 = pt r (.stringIter ⟨bs.toArray⟩ 0) :: L) (fun F a w s t0 => ?_) (by rintro _ _ ⟨r, rfl, rfl⟩; exact hk r)
  have h1 := s.eval hx
  unfold str at h1
  exact ⟨.pointer (some ⟨w.heap.size, 0, none⟩), _, _, by simp [execOp, Instr.range, h1, hs.und, newObj, Sem.run], St.new t0, _, rfl, rfl⟩
theorem S.nxs {x : Operand} {r k : Nat} {bs : List UInt8} {L0 : List HP} [hp : Pick (pt r (.stringIter ⟨bs.toArray⟩ k)) L L0] (hx : ev f x = some (.pointer (some ⟨r, 0, none⟩)))
    (hend : bs.length ≤ k → opsS P n ops rest Q (upd f d (.tuple #[.bool false])) (pt r (.stringIter ⟨bs.toArray⟩ k) :: L0))
    (hstep : ∀ b, bs[k]? = some b → opsS P n ops rest Q (upd f d (.tuple #[.bool true, .int .i64 k, .int .i32 b.toNat])) (pt r (.stringIter ⟨bs.toArray⟩ (k + 1)) :: L0)) (hb : ∀ b ∈ bs, b.toNat < 128) :
    opsS P n ops (⟨some d, .next x true, ty, pos, af, none⟩ :: rest) Q f L := by
  refine opsS_ent hp.ent ?_
  refine opsS_value (R := fun v L1 => (bs.length ≤ k ∧ v = .tuple #[.bool false] ∧ L1 = pt r (.stringIter ⟨bs.toArray⟩ k) :: L0) ∨ ∃ b, bs[k]? = some b ∧ v = .tuple #[.bool true, .int .i64 k, .int .i32 b.toNat] ∧ L1 = pt r (.stringIter ⟨bs.toArray⟩ (k + 1)) :: L0) (fun F a w s t0 => ?_) (by
    rintro _ _ (⟨h, rfl, rfl⟩ | ⟨b, h, rfl, rfl⟩)
    · exact hend h
    · exact hstep b h)
  have hr := St.pt_read t0
  have es : (⟨bs.toArray⟩ : ByteArray).size = bs.length := by simp [ByteArray.size]
  by_cases h : k < bs.length
  · obtain ⟨b, hbk⟩ : ∃ b, bs[k]? = some b := ⟨_, List.getElem?_eq_getElem h⟩
    have hb8 := hb b (List.mem_of_getElem? hbk)
    have hget : (⟨bs.toArray⟩ : ByteArray).get! k = b := by
      have : bs.toArray[k]! = b := by
        rw [getElem!_pos bs.toArray k (by simpa using h)]
        simp only [List.getElem_toArray]
        exact (List.getElem?_eq_some_iff.1 hbk).2
      exact this
    have hd : Utf8.decode ⟨bs.toArray⟩ k = (b.toNat, 1) := by
      unfold Utf8.decode
      simp only [Nat.add_zero, hget]
      rw [if_pos hb8]
    refine ⟨_, { w with heap := w.heap.setIfInBounds r (.stringIter ⟨bs.toArray⟩ (k + 1)) }, _, ?_, ?_, .inr ⟨b, hbk, rfl, rfl⟩⟩
    · have hlt : r < w.heap.size := (Array.getElem?_eq_some_iff.1 hr).1
      simp [execOp, s.eval hx, Instr.next, getObj, setObj, Sem.run, hr, es, h, hd, goInt]
    · have hlt : r < w.heap.size := (Array.getElem?_eq_some_iff.1 hr).1
      exact St.pt_write (w' := { w with heap := w.heap.setIfInBounds r (.stringIter ⟨bs.toArray⟩ (k + 1)) }) t0 (by simp [hlt]) (fun j hj => by simp [Ne.symm hj])
  · exact ⟨_, w, _, by simp [execOp, s.eval hx, Instr.next, getObj, Sem.run, hr, es, h], t0, .inl ⟨by omega, rfl, rfl⟩⟩
end
theorem St.more {w w' : World} {L : List HP} (H : St w L) (hb : ∀ (k : Nat) (o : Obj), w.heap[k]? = some o → w'.heap[k]? = some o) (he : ext w' = ext w) : St w' L := by
  obtain ⟨h0, f, s⟩ := H
  exact ⟨h0, fun b p o e => hb _ _ (f b p o e), by rw [he]; exact s⟩
theorem CallsS.intro {P : Program} {g : FuncId} {args : List Value} {L : List HP} {R : Value → List HP → Prop} (h : ∀ F w, St w (L ++ F) → Calls P g args.toArray w fun e w' => ∃ v L', e = .returned v ∧ St w' (L' ++ F) ∧ R v L') : CallsS P g args L R := h
theorem CallsS.lift {P : Program} {g : FuncId} {args : List Value} {L : List HP} {R : Value → Prop} (h : ∀ F w, St w (L ++ F) → Calls P g args.toArray w fun e w' => ∃ v, e = .returned v ∧ R v ∧ (∀ (k : Nat) (o : Obj), w.heap[k]? = some o → w'.heap[k]? = some o) ∧ ext w' = ext w) : CallsS P g args L (fun r L' => R r ∧ L' = L) := by
  intro F w H
  refine (h F w H).mono ?_
  rintro e w' ⟨v, rfl, hv, hb, he⟩
  exact ⟨v, L, rfl, St.more H hb he, hv, rfl⟩
end Go.SX
namespace Go.Proofs.YtkleenllkjodoaaGreatDoor
open Go Go.SX
attribute [local irreducible] swp opsS thenS blockS retS CallsS St Ent YieldS anyS drawS
def insE (es : List EV) (nw : EV) : List EV := es.filter (fun e => decide (e.id < nw.id)) ++ nw :: es.filter (fun e => decide (nw.id < e.id))
end Go.Proofs.YtkleenllkjodoaaGreatDoor
namespace Go.Proofs.YtkleenllkjodoaaGreatDoor
open Go Go.SX
attribute [local irreducible] swp opsS thenS blockS retS CallsS St Ent YieldS anyS drawS
theorem keys_nodup {κ α : Type} [DecidableEq κ] {m : List (κ × α)} (h : keysOK m) : m.Nodup := by
  unfold keysOK at h
  rw [List.nodup_iff_pairwise_ne, List.pairwise_map] at h
  rw [List.nodup_iff_pairwise_ne]
  exact h.imp fun h1 h2 => h1 (by rw [h2])
theorem keys_of_lt {m : List (Int × VL)} (h : (m.map (·.1)).Pairwise (· < ·)) : keysOK m := by
  unfold keysOK
  rw [List.nodup_iff_pairwise_ne]
  exact h.imp fun h1 h2 => by omega
theorem insE_sorted {es : List EV} {nw : EV} (hs : (es.map (·.id)).Pairwise (· < ·)) : ((insE es nw).map (·.id)).Pairwise (· < ·) := by
  unfold insE
  rw [List.map_append, List.map_cons, List.pairwise_append]
  refine ⟨pw_filter hs _, List.pairwise_cons.2 ⟨fun y hy => ?_, pw_filter hs _⟩, fun x hx y hy => ?_⟩
  · obtain ⟨u, hu, rfl⟩ := List.mem_map.1 hy
    have h1 := (List.mem_filter.1 hu).2
    simpa using h1
  · obtain ⟨u, hu, rfl⟩ := List.mem_map.1 hx
    have h1 := (List.mem_filter.1 hu).2
    simp at h1
    rcases List.mem_cons.1 hy with rfl | hy
    · exact h1
    · obtain ⟨w, hw, rfl⟩ := List.mem_map.1 hy
      have h3 := (List.mem_filter.1 hw).2
      simp at h3; omega
theorem insE_mem {es : List EV} {nw e : EV} (h : e ∈ insE es nw) : e = nw ∨ e ∈ es ∧ e.id ≠ nw.id := by
  unfold insE at h
  rcases List.mem_append.1 h with h | h
  · have h1 := List.mem_filter.1 h
    have h2 := h1.2
    simp at h2
    exact .inr ⟨h1.1, by omega⟩
  rcases List.mem_cons.1 h with h | h
  · exact .inl h
  · have h1 := List.mem_filter.1 h
    have h2 := h1.2
    simp at h2
    exact .inr ⟨h1.1, by omega⟩
theorem insE_mem' {es : List EV} {nw e : EV} (h : e = nw ∨ e ∈ es ∧ e.id ≠ nw.id) : e ∈ insE es nw := by
  unfold insE
  rcases h with rfl | ⟨h1, h2⟩
  · simp
  · by_cases h3 : e.id < nw.id
    · exact List.mem_append_left _ (List.mem_filter.2 ⟨h1, by simpa using h3⟩)
    · refine List.mem_append_right _ (List.mem_cons_of_mem _ (List.mem_filter.2 ⟨h1, ?_⟩))
      simp; omega
theorem map_id_key {es : List EV} : (es.map EV.abs).map (·.1) = es.map (·.id) := by rw [List.map_map]; rfl
theorem insE_perm {es : List EV} {nw : EV} {ch : List (Int × VL)} (hp : (es.map EV.abs).Perm ch) (hk : keysOK ch) (hs : (es.map (·.id)).Pairwise (· < ·)) : ((insE es nw).map EV.abs).Perm (putL ch nw.id (nw.vs.map OV.abs)) := by
  have k1 : keysOK ((insE es nw).map EV.abs) := keys_of_lt (by rw [map_id_key]; exact insE_sorted hs)
  have k2 := putL_ok hk nw.id (nw.vs.map OV.abs)
  rw [List.perm_ext_iff_of_nodup (keys_nodup k1) (keys_nodup k2)]
  rintro ⟨x, w⟩
  rw [← lkL_iff k2, lkL_put hk]
  constructor
  · intro h
    obtain ⟨e, he, h2⟩ := List.mem_map.1 h
    clear h
    rcases insE_mem he with rfl | ⟨he1, he2⟩
    · have hx : x = e.id := (congrArg Prod.fst h2).symm
      have hx2 : w = e.vs.map OV.abs := (congrArg Prod.snd h2).symm
      rw [if_pos hx, hx2]
    · have hm : (x, w) ∈ ch := hp.mem_iff.1 (by rw [← h2]; exact List.mem_map_of_mem he1)
      have hx : x = e.id := (congrArg Prod.fst h2).symm
      rw [if_neg (by rw [hx]; exact he2)]
      exact (lkL_iff hk).2 hm
  · intro h
    by_cases hx : x = nw.id
    · rw [if_pos hx] at h
      cases h
      rw [hx]
      exact List.mem_map_of_mem (f := EV.abs) (insE_mem' (.inl rfl))
    · rw [if_neg hx] at h
      obtain ⟨e, he, h2⟩ := List.mem_map.1 (hp.mem_iff.2 ((lkL_iff hk).1 h))
      rw [← h2]
      refine List.mem_map_of_mem (f := EV.abs) (insE_mem' (.inr ⟨he, ?_⟩))
      have : x = e.id := (congrArg Prod.fst h2).symm
      rw [← this]; exact hx
theorem ROK.put {M : Nat → Option Obj} {st : VS} {a a' : Option Addr} {c c' : Nat} {es : List EV} {is : List IV} (h : ROK M st a c es a' c' is) {M2 : Nat → Option Obj} (hl : leM M M2) {a2 : Option Addr} {c2 : Nat} {nw : EV} (hnw : okE M2 nw)
    (hs : SlM M2 a2 (insE es nw).length 2 ((insE es nw).flatMap EV.cells)) (hc : (insE es nw).length ≤ c2) : ROK M2 { st with ch := putL st.ch nw.id (nw.vs.map OV.abs) } a2 c2 (insE es nw) a' c' is :=
  ⟨insE_perm h.ch h.k1 h.cs, insE_sorted h.cs, h.its, h.ss, fun e he => by
    rcases insE_mem he with rfl | ⟨he, _⟩
    · exact hnw
    · exact (h.oe e he).mono hl, fun i hi => (h.oi i hi).mono hl, hs, h.sI.mono hl, hc, h.cI, putL_ok h.k1 _ _, h.k2, h.oc⟩
theorem sorted_last {vs : VL} (h : sortedV vs) : ∀ v ∈ vs, v.1 ≤ lastS vs := by
  intro v hv
  unfold lastS
  cases hg : vs.getLast? with
  | none => rw [List.getLast?_eq_none_iff] at hg; subst hg; cases hv
  | some l =>
    rw [List.getLast?_eq_some_iff] at hg
    obtain ⟨p, rfl⟩ := hg
    unfold sortedV at h
    rw [List.map_append, List.pairwise_append] at h
    rcases List.mem_append.1 hv with hv | hv
    · have := h.2.2 v.1 (List.mem_map_of_mem hv) l.1 (by simp)
      simp; omega
    · obtain rfl := List.mem_singleton.1 hv
      simp
end Go.Proofs.YtkleenllkjodoaaGreatDoor
namespace Go.Proofs.YtkleenllkjodoaaGreatDoor
open Go Go.SX
attribute [local irreducible] swp opsS thenS blockS retS CallsS St Ent YieldS anyS drawS
end Go.Proofs.YtkleenllkjodoaaGreatDoor
namespace Go.Proofs.YtkleenllkjodoaaGreatDoor
open Go Go.SX
attribute [local irreducible] swp opsS thenS blockS retS CallsS St Ent YieldS anyS drawS
def cutN (vs : VL) (s : Int) : Nat := if aftN vs s = 0 then 0 else if 0 < (((vs[aftN vs s - 1]?).map (·.2)).getD []).length then aftN vs s - 1 else aftN vs s
end Go.Proofs.YtkleenllkjodoaaGreatDoor
namespace Go.Proofs.YtkleenllkjodoaaGreatDoor
open Go Go.SX
attribute [local irreducible] swp opsS thenS blockS retS CallsS St Ent YieldS anyS drawS
abbrev GL := List (Int × Int)
def sw1 (s : Int) (u : List (Int × VL) × GL) (id : Int) : List (Int × VL) × GL :=
  (if ((chV u.1 id).drop (cutN (chV u.1 id) s)).length = 0 then delL u.1 id else putL u.1 id ((chV u.1 id).drop (cutN (chV u.1 id) s)), u.2 ++ ((chV u.1 id).take (cutN (chV u.1 id) s)).map fun v => (id, v.1))
def swF (s : Int) (ks : List Int) (ch : List (Int × VL)) : List (Int × VL) × GL := ks.foldl (sw1 s) (ch, [])
def swIds (ch : List (Int × VL)) : List Int := sortL (ch.map (·.1))
def sweepS (st : VS) (s : Int) : VS := if min s 1099511627776 ≤ st.mark then st else { st with mark := min s 1099511627776, ch := (swF (min s 1099511627776) (swIds st.ch) st.ch).1 }
theorem lkL_del {κ α : Type} [DecidableEq κ] {m : List (κ × α)} (x y : κ) (h : y ≠ x) : lkL (delL m x) y = lkL m y := by
  unfold lkL delL
  rw [List.find?_filter]
  congr 2
  funext u
  by_cases hu : u.1 = y
  · have : u.1 ≠ x := fun e => h (by rw [← hu, e])
    simp [hu, h]
  · simp [hu]
end Go.Proofs.YtkleenllkjodoaaGreatDoor
namespace Go.Proofs.YtkleenllkjodoaaGreatDoor
open Go Go.SX
attribute [local irreducible] swp opsS thenS blockS retS CallsS St Ent YieldS anyS drawS
end Go.Proofs.YtkleenllkjodoaaGreatDoor
namespace Go.Proofs.YtkleenllkjodoaaGreatDoor
open Go Go.SX
attribute [local irreducible] swp opsS thenS blockS retS CallsS St Ent YieldS anyS drawS
theorem ROK.ids {M : Nat → Option Obj} {st : VS} {a a' : Option Addr} {c c' : Nat} {es : List EV} {is : List IV} (h : ROK M st a c es a' c' is) : swIds st.ch = es.map (·.id) := by
  refine sorted_uniq ((sortL_perm _).trans ?_) (sortL_sorted _) (h.cs.imp fun h => by omega)
  have := (h.ch.map (·.1)).symm
  rw [map_id_key] at this
  exact this
end Go.Proofs.YtkleenllkjodoaaGreatDoor
namespace Go.Proofs.YtkleenllkjodoaaGreatDoor
open Go Go.SX
attribute [local irreducible] swp opsS thenS blockS retS CallsS St Ent YieldS anyS drawS
structure DV where
  d : Int
  txn : Int
  after : Int
  a : Option Addr
  c : Nat
  ops : List OV
  stamp : Int
  ask : Int
  id : Int
  ia : Option Addr
  ic : Nat
  ids : List Int
abbrev DV.cells (o : DV) : List Value := [.int .u8 o.d, .int .u64 o.txn, .int .u64 o.after, .slice o.a o.ops.length o.c, .int .u64 o.stamp, .int .u64 o.ask, .int .u64 o.id, .slice o.ia o.ids.length o.ic]
abbrev DV.val (o : DV) : Value := .agg #[.int .u8 o.d, .int .u64 o.txn, .int .u64 o.after, .slice o.a o.ops.length o.c, .int .u64 o.stamp, .int .u64 o.ask, .int .u64 o.id, .slice o.ia o.ids.length o.ic]
end Go.Proofs.YtkleenllkjodoaaGreatDoor
namespace Go.Proofs.YtkleenllkjodoaaGreatDoor
open Go Go.SX
attribute [local irreducible] swp opsS thenS blockS retS CallsS St Ent YieldS anyS drawS
structure WFK (st : VS) (n : Nat) : Prop where
  wf : WF st n
  k1 : keysOK st.ch
  k2 : keysOK st.its
theorem WF.mono {st : VS} {n m : Nat} (h : WF st n) (hm : n ≤ m) : WF st m :=
  ⟨h.d1, h.d2, by have := h.il; omega, h.io, by have := h.cl; omega, fun c hc => ⟨(h.co c hc).1, by have := (h.co c hc).2.1; omega, (h.co c hc).2.2⟩⟩
theorem WFK.mono {st : VS} {n m : Nat} (h : WFK st n) (hm : n ≤ m) : WFK st m := ⟨h.wf.mono hm, h.k1, h.k2⟩
theorem WFK.free {st : VS} {n : Nat} (h : WFK st n) (t : Int) : WFK { st with its := delL st.its t } n :=
  ⟨⟨h.wf.d1, h.wf.d2, by have := h.wf.il; have e := List.length_filter_le (fun u : Int × Int × VL => !decide (u.1 = t)) st.its; exact Nat.le_trans e this, fun i hi => h.wf.io i (List.mem_filter.1 hi).1, h.wf.cl, h.wf.co⟩, h.k1, delL_ok h.k2 t⟩
theorem applyC_mem {s : Int} {c : Int × VL} : ∀ {ops : VL} {ch : List (Int × VL)}, keysOK ch → (ops.map (·.1)).Nodup → c ∈ applyC s ch ops → c ∈ ch ∨ ∃ o ∈ ops, c = (o.1, chV ch o.1 ++ [(s, o.2)])
  | [], _, _, _, h => .inl h
  | o :: ops, ch, hk, hn, h => by
    simp only [List.map_cons, List.nodup_cons] at hn
    have hput : ∀ c ∈ putC s ch o, c ∈ ch ∨ c = (o.1, chV ch o.1 ++ [(s, o.2)]) := fun c hc => by
      unfold putC at hc
      rcases keyCase ch hk o.1 with ⟨p, b, q, rfl, hp, hq⟩ | hno
      · rw [putL_mid hp hq] at hc
        rcases List.mem_append.1 hc with hc | hc
        · exact .inl (List.mem_append_left _ hc)
        rcases List.mem_cons.1 hc with hc | hc
        · exact .inr hc
        · exact .inl (List.mem_append_right _ (List.mem_cons_of_mem _ hc))
      · rw [putL_none hno] at hc
        rcases List.mem_append.1 hc with hc | hc
        · exact .inl hc
        · exact .inr (List.mem_singleton.1 hc)
    rcases applyC_mem (s := s) (ops := ops) (putL_ok' hk s o) hn.2 h with h | ⟨o', ho', h⟩
    · rcases hput c h with h | h
      · exact .inl h
      · exact .inr ⟨o, by simp, h⟩
    · refine .inr ⟨o', List.mem_cons_of_mem _ ho', ?_⟩
      have hne : o'.1 ≠ o.1 := fun e => hn.1 (by rw [← e]; exact List.mem_map_of_mem ho')
      have : chV (putC s ch o) o'.1 = chV ch o'.1 := by
        unfold chV putC
        rw [lkL_put hk, if_neg hne]
      rw [h, this]
theorem WFK.apply {st : VS} {n : Nat} (h : WFK st n) (t s : Int) : WFK (applyS st t s) (n + 1) := by
  unfold applyS
  cases hl : lkL st.its t with
  | none => exact h.mono (by omega)
  | some i =>
    dsimp only
    by_cases hE : applyE st t s = 0
    · rw [if_pos hE]
      have hio := h.wf.io _ (lk_memL hl)
      dsimp only at hio
      have hany : ∀ o ∈ i.2, ¬ s ≤ lastS (chV st.ch o.1) := by
        unfold applyE at hE
        rw [hl] at hE
        dsimp only at hE
        by_cases h1 : s = 0 ∨ 1099511627776 < s ∨ s ≤ i.1
        · rw [if_pos h1] at hE; cases hE
        rw [if_neg h1] at hE
        by_cases h2 : (i.2.any fun o => decide (s ≤ lastS (chV st.ch o.1))) = true
        · rw [if_pos h2] at hE; cases hE
        · intro o ho hh
          exact h2 (List.any_eq_true.2 ⟨o, ho, decide_eq_true hh⟩)
      refine ⟨⟨h.wf.d1, h.wf.d2, ?_, fun j hj => h.wf.io j (List.mem_filter.1 hj).1, ?_, fun c hc => ?_⟩, applyC_ok h.k1, delL_ok h.k2 t⟩
      · have e := List.length_filter_le (fun u : Int × Int × VL => !decide (u.1 = t)) st.its
        have := h.wf.il
        have e2 : (delL st.its t).length ≤ st.its.length := e
        dsimp only; omega
      · have e := applyC_len (s := s) (ops := i.2) h.k1
        have := h.wf.cl
        dsimp only; omega
      · rcases applyC_mem h.k1 hio.2.1 hc with hc | ⟨o, ho, rfl⟩
        · have := h.wf.co c hc
          exact ⟨this.1, by omega, this.2.2⟩
        · have hcv : sortedV (chV st.ch o.1) ∧ (chV st.ch o.1).length ≤ n ∧ ∀ v ∈ chV st.ch o.1, v.2.length ≤ 8 := by
            unfold chV
            cases hz : lkL st.ch o.1 with
            | none => exact ⟨List.Pairwise.nil, Nat.zero_le _, by simp⟩
            | some w => exact h.wf.co _ (lk_memL hz)
          have hla := sorted_last hcv.1
          have hs := hany o ho
          refine ⟨?_, by simp; omega, fun v hv => ?_⟩
          · unfold sortedV at hcv ⊢
            rw [List.map_append, List.pairwise_append]
            refine ⟨hcv.1, by simp, fun x hx y hy => ?_⟩
            obtain ⟨w, hw, rfl⟩ := List.mem_map.1 hx
            simp at hy
            subst hy
            have := hla w hw
            omega
          · rcases List.mem_append.1 hv with hv | hv
            · exact hcv.2.2 v hv
            · obtain rfl := List.mem_singleton.1 hv
              exact (hio.2.2 o ho).1
    · rw [if_neg hE]; exact h.mono (by omega)
theorem WFK.lock {st : VS} {n : Nat} (h : WFK st n) (t a : Int) (ops : VL) : WFK (lockS st t a ops) (n + 1) := by
  unfold lockS
  by_cases hE : lockE st t a ops = 0
  · rw [if_pos hE]
    unfold lockE at hE
    by_cases h1 : 1099511627776 < a
    · rw [if_pos h1] at hE; cases hE
    rw [if_neg h1] at hE
    by_cases h2 : checkV st.dim ops ≠ 0
    · rw [if_pos h2] at hE; exact absurd hE h2
    rw [if_neg h2] at hE
    have h2' : checkV st.dim ops = 0 := Decidable.not_not.1 h2
    by_cases h3 : (lkL st.its t).isSome = true
    · rw [if_pos h3] at hE; cases hE
    obtain ⟨_, _, c1, c2, c3, c4⟩ := check_ok h2'
    have hno : lkL st.its t = none := by
      cases hz : lkL st.its t with
      | none => rfl
      | some w => rw [hz] at h3; exact absurd rfl h3
    refine ⟨⟨h.wf.d1, h.wf.d2, ?_, fun i hi => ?_, by have := h.wf.cl; dsimp only; omega, fun c hc => ?_⟩, h.k1, keys_snoc h.k2 _ hno⟩
    · have := h.wf.il
      simp; omega
    · rcases List.mem_append.1 hi with hi | hi
      · exact h.wf.io i hi
      · obtain rfl := List.mem_singleton.1 hi
        exact ⟨c2, c3, c4⟩
    · have := h.wf.co c hc
      exact ⟨this.1, by omega, this.2.2⟩
  · rw [if_neg hE]; exact h.mono (by omega)
end Go.Proofs.YtkleenllkjodoaaGreatDoor
namespace Go.Proofs.YtkleenllkjodoaaGreatDoor
open Go Go.SX
attribute [local irreducible] swp opsS thenS blockS retS CallsS St Ent YieldS anyS drawS
structure HV where
  id : Int
  dist : Int
  a : Option Addr
  c : Nat
  vec : List Int
abbrev HV.cells (h : HV) : List Value := [.int .u64 h.id, .int .u64 h.dist, .slice h.a h.vec.length h.c]
abbrev I64 : Int → Value := Value.int .i64
abbrev HV.val (h : HV) : Value := .agg #[.int .u64 h.id, .int .u64 h.dist, .slice h.a h.vec.length h.c]
abbrev HV.abs (h : HV) : Int × Int × List Int := (h.id, h.dist, h.vec)
structure NV where
  kind : Int
  txn : Int
  batch : Int
  stamp : Int
  after : Int
  mark : Int
  query : Int
  id : Int
  k : Int
  ef : Int
  code : Int
  who : Int
  pa : Option Addr
  pc : Nat
  parts : List Int
  oa : Option Addr
  oc : Nat
  ops : List OV
  va : Option Addr
  vc : Nat
  vec : List Int
  ha : Option Addr
  hc : Nat
  hits : List HV
abbrev NV.cells (n : NV) : List Value := [.int .u8 n.kind, .int .u64 n.txn, .int .u64 n.batch, .int .u64 n.stamp, .int .u64 n.after, .int .u64 n.mark, .int .u64 n.query, .int .u64 n.id, .int .i64 n.k, .int .i64 n.ef, .int .i64 n.code, .int .i64 n.who,
  .slice n.pa n.parts.length n.pc, .slice n.oa n.ops.length n.oc, .slice n.va n.vec.length n.vc, .slice n.ha n.hits.length n.hc]
abbrev NV.val (n : NV) : Value := .agg #[.int .u8 n.kind, .int .u64 n.txn, .int .u64 n.batch, .int .u64 n.stamp, .int .u64 n.after, .int .u64 n.mark, .int .u64 n.query, .int .u64 n.id, .int .i64 n.k, .int .i64 n.ef, .int .i64 n.code, .int .i64 n.who,
  .slice n.pa n.parts.length n.pc, .slice n.oa n.ops.length n.oc, .slice n.va n.vec.length n.vc, .slice n.ha n.hits.length n.hc]
def NV.bits (n : NV) : List Bool := [decide (0 < n.txn), decide (0 < n.batch), decide (0 < n.stamp), decide (0 < n.after), decide (0 < n.mark), decide (0 < n.query), decide (0 < n.id), !decide (n.k = 0), !decide (n.ef = 0), !decide (n.code = 0), !decide (n.who = 0), decide (0 < (n.parts.length : Int)), decide (0 < (n.ops.length : Int)), decide (0 < (n.vec.length : Int)), decide (0 < (n.hits.length : Int))]
structure NA where
  kind : Int
  txn : Int
  batch : Int
  stamp : Int
  after : Int
  mark : Int
  query : Int
  id : Int
  k : Int
  ef : Int
  code : Int
  who : Int
  parts : List Int
  ops : VL
  vec : List Int
  hits : List (Int × Int × List Int)
abbrev NA.zero : NA := ⟨0, 0, 0, 0, 0, 0, 0, 0, 0, 0, 0, 0, [], [], [], []⟩
def NA.bits (n : NA) : List Bool := [decide (0 < n.txn), decide (0 < n.batch), decide (0 < n.stamp), decide (0 < n.after), decide (0 < n.mark), decide (0 < n.query), decide (0 < n.id), !decide (n.k = 0), !decide (n.ef = 0), !decide (n.code = 0), !decide (n.who = 0), decide (0 < (n.parts.length : Int)), decide (0 < (n.ops.length : Int)), decide (0 < (n.vec.length : Int)), decide (0 < (n.hits.length : Int))]
def fldN : Nat → Nat
  | 1 => 4098 | 2 => 518 | 3 => 6153 | 4 => 513 | 5 => 517 | 6 => 1 | 7 => 1 | 8 => 8672 | 9 => 8692 | 10 => 16928 | 11 => 16932 | 12 => 6153 | 13 => 5 | 14 => 1 | 15 => 16 | 16 => 16 | 17 => 2055 | 18 => 1 | 19 => 7179 | 20 => 1025 | 21 => 1025 | 22 => 1 | _ => 0
def bareV (v : List Int) : Bool := decide (v.length = 0) || rightV v
def badOp (o : Int × List Int) : Bool := decide (1099511627776 < o.1) || !bareV o.2
def badHit (h : Int × Int × List Int) : Bool := decide (1099511627776 < h.1) || !rightV h.2.2
def okP (l : List Int) (k : Nat) : Bool := decide (0 ≤ l.getD k 0) && decide (l.getD k 0 < 16) && (decide (k = 0) || decide (l.getD (k - 1) 0 < l.getD k 0))
def partsV (l : List Int) : Bool := (List.range l.length).all (okP l)
def boundN (n : NA) : Bool :=
  !(decide (1099511627776 < max (max n.stamp n.after) n.mark) || decide (1099511627776 < n.id) || decide (min (min (min n.k n.ef) n.who) n.code < 0) || decide (16 < n.k) || decide (256 < n.ef) || decide (16 ≤ n.who) || decide (13 < n.code)) &&
  !(decide (4 < n.parts.length) || decide (16 < n.ops.length) || decide (16 < n.hits.length) || !bareV n.vec) && partsV n.parts && !n.ops.any badOp && !n.hits.any badHit
def rightN (n : NA) : Bool := decide (1 ≤ n.kind ∧ n.kind ≤ 22) && (n.bits.zipIdx.all fun b => !b.1 || (fldN n.kind.toNat).testBit b.2) && boundN n
abbrev NV.abs (n : NV) : NA := ⟨n.kind, n.txn, n.batch, n.stamp, n.after, n.mark, n.query, n.id, n.k, n.ef, n.code, n.who, n.parts, n.ops.map OV.abs, n.vec, n.hits.map HV.abs⟩
structure RdN (A : List HP) (n : NV) : Prop where
  p : RdS A n.pa n.parts.length 1 (n.parts.map I64)
  o : RdO A n.oa n.ops
  v : RdS A n.va n.vec.length 1 (n.vec.map I32)
  h : RdS A n.ha n.hits.length 3 (n.hits.flatMap HV.cells)
  hv : ∀ h ∈ n.hits, RdS A h.a h.vec.length 1 (h.vec.map I32)
theorem RdN.sub {A L : List HP} {n : NV} (h : RdN A n) [s : Sub A L] : RdN L n := ⟨h.p.sub, h.o.sub, h.v.sub, h.h.sub, fun x hx => (h.hv x hx).sub⟩
structure OkN (n : NV) : Prop where
  p : n.parts.length ≤ 1000000
  o : n.ops.length ≤ 1000000
  ov : ∀ o ∈ n.ops, o.vec.length ≤ 1000000
  v : n.vec.length ≤ 1000000
  h : n.hits.length ≤ 1000000
  hv : ∀ h ∈ n.hits, h.vec.length ≤ 1000000
section
variable {P : Program} {n : Nat} {ops : List Oper} {f : Env} {A : List HP} {d : Tmp} {ty : TypeId} {pos : String} {af : Array Edge}
end
end Go.Proofs.YtkleenllkjodoaaGreatDoor
namespace Go.Proofs.YtkleenllkjodoaaGreatDoor
open Go Go.SX
attribute [local irreducible] swp opsS thenS blockS retS CallsS St Ent YieldS anyS drawS
section
variable {P : Program} {n : Nat} {ops : List Oper} {f : Env} {A : List HP} {d : Tmp} {ty : TypeId} {pos : String} {af : Array Edge}
end
end Go.Proofs.YtkleenllkjodoaaGreatDoor
namespace Go.Proofs.YtkleenllkjodoaaGreatDoor
open Go Go.SX
attribute [local irreducible] swp opsS thenS blockS retS CallsS St Ent YieldS anyS drawS
abbrev ST := List UInt8 × Nat
abbrev ST.cells (p : ST) : List Value := [str p.1, .int .i64 (p.2 : Int)]
def sortsT : List ST := [([], 0), ([65, 115, 107], 4098), ([82, 101, 112, 108, 121], 518), ([80, 114, 101, 112, 97, 114, 101], 6153), ([86, 111, 116, 101], 513), ([68, 101, 99, 105, 100, 101], 517), ([65, 99, 107], 1), ([80, 114, 111, 98, 101], 1), ([81, 117, 101, 114, 121], 8672), ([76, 111, 111, 107], 8692), ([83, 101, 101, 110], 16928), ([82, 101, 115, 117, 108, 116], 16932), ([80, 114, 101, 112, 97, 114, 101, 100], 6153), ([67, 111, 109, 109, 105, 116, 116, 101, 100], 5), ([65, 98, 111, 114, 116, 101, 100], 1), ([83, 119, 101, 112, 116], 16), ([69, 112, 111, 99, 104], 16), ([67, 111, 109, 109, 105, 116], 2055), ([69, 110, 100], 1), ([66, 101, 103, 105, 110], 7179), ([89, 101, 115], 1025), ([65, 99, 107, 101, 100], 1025), ([71, 111, 110, 101], 1)]
def sortsC : List Value := sortsT.flatMap ST.cells
end Go.Proofs.YtkleenllkjodoaaGreatDoor
namespace Go.Proofs.YtkleenllkjodoaaGreatDoor
open Go Go.SX
structure JS where
  v : VS
  parts : List (Int × List Int)
  done : List (Int × Int)
structure PA where
  rec_ : List NA
  mail : List (Int × NA)
  els : List (Int × NA)
def PA.none : PA := ⟨[], [], []⟩
abbrev voteN (txn code : Int) : Int × NA := (0, { NA.zero with kind := 4, txn := txn, code := code })
def takenV (st : VS) (ops : VL) : Bool := st.its.any fun i => i.2.2.any fun o => holdsV ops o.1
def aboveV (st : VS) (s : Int) (ops : VL) : Bool := !st.ch.any fun c => decide (s ≤ lastS c.2) && holdsV ops c.1
def prepV (j : JS) (n : NA) : PA :=
  if (lkL j.done n.txn).isSome ∨ checkV j.v.dim n.ops ≠ 0 then PA.none
  else if (lkL j.v.its n.txn).isSome then ⟨[], [voteN n.txn 0], []⟩
  else if takenV j.v n.ops then ⟨[], [voteN n.txn 11], []⟩
  else ⟨[{ n with kind := 12 }], [voteN n.txn 0], [voteN n.txn 8]⟩
abbrev ackN (txn : Int) : Int × NA := (0, { NA.zero with kind := 6, txn := txn })
def deciV (j : JS) (from_ : Int) (n : NA) : PA :=
  if n.code ≠ 0 then if (lkL j.v.its n.txn).isSome ∧ from_ = 0 then ⟨[{ NA.zero with kind := 14, txn := n.txn }], [], []⟩ else PA.none
  else match lkL j.done n.txn with
    | some s => if s = n.stamp then ⟨[], [ackN n.txn], []⟩ else PA.none
    | none => match lkL j.v.its n.txn with
      | some i => if max i.1 j.v.mark < n.stamp ∧ aboveV j.v n.stamp i.2 = true then ⟨[{ NA.zero with kind := 13, txn := n.txn, stamp := n.stamp }], [ackN n.txn], []⟩ else PA.none
      | none => PA.none
def planV (j : JS) (from_ : Int) (n : NA) : PA :=
  if rightN n = false then PA.none
  else if n.kind = 3 then if from_ = 0 then prepV j n else PA.none
  else if n.kind = 5 then deciV j from_ n
  else if n.kind = 7 then match lkL j.done n.txn with
    | some s => ⟨[], [(from_, { NA.zero with kind := 5, txn := n.txn, stamp := s })], []⟩
    | none => PA.none
  else PA.none
def appE (j : JS) (n : NA) : Int :=
  if rightN n = false then 4
  else if n.kind = 12 then lockE j.v n.txn n.after n.ops
  else if n.kind = 13 then applyE j.v n.txn n.stamp
  else if n.kind = 14 then if (lkL j.v.its n.txn).isSome then 0 else 6
  else if n.kind = 15 then 0
  else 4
def appS (j : JS) (n : NA) : JS :=
  if appE j n ≠ 0 then j
  else if n.kind = 12 then ⟨lockS j.v n.txn n.after n.ops, putL j.parts n.txn n.parts, j.done⟩
  else if n.kind = 13 then ⟨applyS j.v n.txn n.stamp, delL j.parts n.txn, putL j.done n.txn n.stamp⟩
  else if n.kind = 14 then ⟨{ j.v with its := delL j.v.its n.txn }, delL j.parts n.txn, j.done⟩
  else if n.kind = 15 then ⟨sweepS j.v n.mark, j.parts, j.done⟩
  else j
structure JOK (j : JS) (n : Nat) : Prop where
  w : WFK j.v n
  kp : keysOK j.parts
  kd : keysOK j.done
  o : ∀ t s, lkL j.done t = some s → lkL j.v.its t = none
  p : ∀ t s, lkL j.done t = some s → 0 < s
  m : 0 ≤ j.v.mark
  ne : ∀ c ∈ j.v.ch, 0 < c.2.length
theorem right_abort {t : Int} (h : 0 ≤ t) : rightN { NA.zero with kind := 14, txn := t } = true := by
  unfold rightN boundN NA.bits NA.zero bareV
  by_cases h0 : 0 < t
  · simp [h0, List.zipIdx, fldN, partsV]
  · simp [h0, List.zipIdx, fldN, partsV]
theorem right_commit {t s : Int} (h2 : s ≤ 1099511627776) : rightN { NA.zero with kind := 13, txn := t, stamp := s } = true := by
  unfold rightN boundN NA.bits NA.zero bareV
  by_cases h0 : 0 < t <;> by_cases h1 : 0 < s <;> simp [h0, h1, List.zipIdx, fldN, partsV] <;> first | omega | (refine ⟨?_, ?_⟩ <;> first | decide | omega)
theorem right_prep {n : NA} (h : rightN n = true) (hk : n.kind = 3) : rightN { n with kind := 12 } = true := by
  unfold rightN at h ⊢
  rw [hk] at h
  exact h
theorem right_bound {n : NA} (h : rightN n = true) : n.stamp ≤ 1099511627776 ∧ n.after ≤ 1099511627776 ∧ n.mark ≤ 1099511627776 := by
  unfold rightN boundN at h
  simp only [Bool.and_eq_true, Bool.not_eq_true', Bool.or_eq_false_iff, decide_eq_false_iff_not] at h
  omega
end Go.Proofs.YtkleenllkjodoaaGreatDoor
namespace Go.Proofs.YtkleenllkjodoaaGreatDoor
open Go Go.SX
theorem isSome_ne {α : Type} {o : Option α} (h : ¬ o.isSome = true) : o = none := by cases o with
  | none => rfl
  | some a => exact absurd rfl h
theorem lkL_snoc {κ α : Type} [DecidableEq κ] {m : List (κ × α)} {x y : κ} {a : α} (h : lkL m x = none) : lkL (m ++ [(x, a)]) y = if y = x then some a else lkL m y := by
  have hm := lk_none' h
  by_cases hy : y = x
  · subst hy
    rw [if_pos rfl]
    exact lkL_mid (q := []) hm
  · rw [if_neg hy]
    unfold lkL
    rw [List.find?_append]
    have : (List.find? (fun p : κ × α => decide (p.1 = y)) [(x, a)]) = none := by simp [Ne.symm hy]
    rw [this, Option.or_none]
theorem lkL_delE {κ α : Type} [DecidableEq κ] (m : List (κ × α)) (x : κ) : lkL (delL m x) x = none := lkL_none fun u hu => by
  have := (List.mem_filter.1 hu).2
  simpa using this
theorem lkL_delI {κ α : Type} [DecidableEq κ] {m : List (κ × α)} (x y : κ) : lkL (delL m x) y = if y = x then none else lkL m y := by
  by_cases hy : y = x
  · subst hy; rw [if_pos rfl, lkL_delE]
  · rw [if_neg hy, lkL_del x y hy]
theorem taken_lock {st : VS} {ops : VL} (h : takenV st ops = false) : (ops.any fun o => st.its.any fun i => holdsV i.2.2 o.1) = false := by
  rw [List.any_eq_false]
  intro o ho hh
  obtain ⟨i, hi, hx⟩ := List.any_eq_true.1 hh
  unfold holdsV at hx
  obtain ⟨u, hu, hux⟩ := List.any_eq_true.1 hx
  have hux := of_decide_eq_true hux
  have : takenV st ops = true := by
    unfold takenV
    refine List.any_eq_true.2 ⟨i, hi, List.any_eq_true.2 ⟨u, hu, ?_⟩⟩
    unfold holdsV
    exact List.any_eq_true.2 ⟨o, ho, decide_eq_true hux.symm⟩
  rw [h] at this; cases this
theorem prep_lock {j : JS} {n : NA} (ha : n.after ≤ 1099511627776) (hc : checkV j.v.dim n.ops = 0) (hl : lkL j.v.its n.txn = none) (ht : takenV j.v n.ops = false) : lockE j.v n.txn n.after n.ops = 0 := by
  unfold lockE
  rw [if_neg (by omega), if_neg (by simp [hc]), hl, if_neg (by simp), taken_lock ht]
  rfl
theorem above_apply {j : JS} {t s : Int} {i : Int × VL} (hl : lkL j.v.its t = some i) (h1 : max i.1 j.v.mark < s) (hm : 0 ≤ j.v.mark) (h2 : s ≤ 1099511627776) (ha : aboveV j.v s i.2 = true) : applyE j.v t s = 0 := by
  unfold applyE
  rw [hl]
  dsimp only
  rw [if_neg (by omega)]
  have hno : (i.2.any fun o => decide (s ≤ lastS (chV j.v.ch o.1))) = false := by
    rw [List.any_eq_false]
    intro o ho hh
    have hh := of_decide_eq_true hh
    unfold chV at hh
    cases hz : lkL j.v.ch o.1 with
    | none =>
      rw [hz] at hh
      have : lastS ([] : VL) = 0 := rfl
      rw [Option.getD_none, this] at hh
      omega
    | some w =>
      rw [hz, Option.getD_some] at hh
      have hmem := lk_memL hz
      unfold aboveV at ha
      rw [Bool.not_eq_true', List.any_eq_false] at ha
      refine ha _ hmem ?_
      rw [Bool.and_eq_true]
      refine ⟨decide_eq_true hh, ?_⟩
      unfold holdsV
      exact List.any_eq_true.2 ⟨o, ho, decide_eq_true rfl⟩
  rw [hno, if_neg (by simp), if_neg (by omega)]
theorem applyC_ne {s : Int} {ops : VL} {ch : List (Int × VL)} (hk : keysOK ch) (hn : (ops.map (·.1)).Nodup) (h : ∀ c ∈ ch, 0 < c.2.length) : ∀ c ∈ applyC s ch ops, 0 < c.2.length := fun c hc => by
  rcases applyC_mem hk hn hc with hc | ⟨o, ho, rfl⟩
  · exact h c hc
  · simp
structure Once (j : JS) (k : Nat) (n r : NA) : Prop where
  tx : r.txn = n.txn
  nd : lkL j.done n.txn = none
  e : appE j r = 0
  ok : JOK (appS j r) (k + 1)
  rt : rightN r = true
theorem JOK.le {j : JS} {a b : Nat} (h : JOK j a) (hl : a ≤ b) : JOK j b := ⟨h.w.mono hl, h.kp, h.kd, h.o, h.p, h.m, h.ne⟩
theorem once_prep {j : JS} {k : Nat} (hj : JOK j k) {n : NA} (hr : rightN n = true) (hk : n.kind = 3) (hd : lkL j.done n.txn = none) (hc : checkV j.v.dim n.ops = 0) (hl : lkL j.v.its n.txn = none) (ht : takenV j.v n.ops = false) :
    Once j k n { n with kind := 12 } ∧ (appS j { n with kind := 12 }).done = j.done ∧ ∀ t, (lkL (appS j { n with kind := 12 }).v.its t).isSome = true → t = n.txn ∨ (lkL j.v.its t).isSome = true := by
  have hb := right_bound hr
  have hlk := prep_lock (j := j) hb.2.1 hc hl ht
  have hr2 := right_prep hr hk
  have hE : appE j { n with kind := 12 } = 0 := by
    unfold appE
    rw [if_neg (by rw [hr2]; decide), if_pos rfl]
    exact hlk
  have hS : appS j { n with kind := 12 } = ⟨lockS j.v n.txn n.after n.ops, putL j.parts n.txn n.parts, j.done⟩ := by
    unfold appS
    rw [if_neg (by rw [hE]; decide), if_pos rfl]
  have hSv : lockS j.v n.txn n.after n.ops = { j.v with its := j.v.its ++ [(n.txn, n.after, n.ops)] } := by unfold lockS; rw [if_pos hlk]
  refine ⟨⟨rfl, hd, hE, ?_, hr2⟩, by rw [hS], fun t h => ?_⟩
  · rw [hS]
    refine ⟨hj.w.lock _ _ _, putL_ok hj.kp _ _, hj.kd, fun t s h => ?_, hj.p, ?_, ?_⟩
    · dsimp only at h ⊢
      rw [hSv]
      dsimp only
      rw [lkL_snoc hl]
      by_cases ht : t = n.txn
      · subst ht; rw [hd] at h; cases h
      · rw [if_neg ht]; exact hj.o t s h
    · rw [hSv]; exact hj.m
    · rw [hSv]; exact hj.ne
  · rw [hS] at h
    dsimp only at h
    rw [hSv] at h
    dsimp only at h
    rw [lkL_snoc hl] at h
    by_cases ht : t = n.txn
    · exact .inl ht
    · rw [if_neg ht] at h; exact .inr h
abbrev comN (t s : Int) : NA := { NA.zero with kind := 13, txn := t, stamp := s }
abbrev aboN (t : Int) : NA := { NA.zero with kind := 14, txn := t }
theorem once_commit {j : JS} {k : Nat} (hj : JOK j k) {n : NA} (hr : rightN n = true) (hd : lkL j.done n.txn = none) {i : Int × VL} (hl : lkL j.v.its n.txn = some i) (h1 : max i.1 j.v.mark < n.stamp) (ha : aboveV j.v n.stamp i.2 = true) :
    Once j k n (comN n.txn n.stamp) ∧ 0 < n.stamp ∧ (appS j (comN n.txn n.stamp)).done = putL j.done n.txn n.stamp ∧ ∀ t, (lkL (appS j (comN n.txn n.stamp)).v.its t).isSome = true → (lkL j.v.its t).isSome = true := by
  have hb := right_bound hr
  have hm := hj.m
  have hE0 := above_apply hl h1 hj.m hb.1 ha
  have hr2 : rightN (comN n.txn n.stamp) = true := right_commit hb.1
  have hE : appE j (comN n.txn n.stamp) = 0 := by
    unfold appE
    rw [if_neg (by rw [hr2]; decide), if_neg (show ¬ (13 : Int) = 12 by decide), if_pos rfl]
    exact hE0
  have hS : appS j (comN n.txn n.stamp) = ⟨applyS j.v n.txn n.stamp, delL j.parts n.txn, putL j.done n.txn n.stamp⟩ := by
    unfold appS
    rw [if_neg (by rw [hE]; decide), if_neg (show ¬ (13 : Int) = 12 by decide), if_pos rfl]
  have hSv : applyS j.v n.txn n.stamp = { j.v with ch := applyC n.stamp j.v.ch i.2, its := delL j.v.its n.txn } := by unfold applyS; rw [hl]; dsimp only; rw [if_pos hE0]
  have hpos : 0 < n.stamp := by omega
  refine ⟨⟨rfl, hd, hE, ?_, hr2⟩, hpos, by rw [hS], fun t h => ?_⟩
  · rw [hS]
    refine ⟨hj.w.apply _ _, delL_ok hj.kp _, putL_ok hj.kd _ _, fun t s h => ?_, fun t s h => ?_, ?_, ?_⟩
    · dsimp only at h ⊢
      rw [hSv]
      dsimp only
      rw [lkL_put hj.kd] at h
      rw [lkL_delI]
      by_cases ht : t = n.txn
      · rw [if_pos ht]
      · rw [if_neg ht] at h ⊢; exact hj.o t s h
    · dsimp only at h
      rw [lkL_put hj.kd] at h
      by_cases ht : t = n.txn
      · rw [if_pos ht] at h; cases h; exact hpos
      · rw [if_neg ht] at h; exact hj.p t s h
    · rw [hSv]; exact hj.m
    · rw [hSv]
      exact applyC_ne hj.w.k1 (hj.w.wf.io _ (lk_memL hl)).2.1 hj.ne
  · rw [hS] at h
    dsimp only at h
    rw [hSv] at h
    dsimp only at h
    rw [lkL_delI] at h
    by_cases ht : t = n.txn
    · rw [if_pos ht] at h; cases h
    · rw [if_neg ht] at h; exact h
theorem once_abort {j : JS} {k : Nat} (hj : JOK j k) {n : NA} (h0 : 0 ≤ n.txn) (hl : (lkL j.v.its n.txn).isSome = true) :
    Once j k n (aboN n.txn) ∧ (appS j (aboN n.txn)).done = j.done ∧ ∀ t, (lkL (appS j (aboN n.txn)).v.its t).isSome = true → t ≠ n.txn ∧ (lkL j.v.its t).isSome = true := by
  have hd : lkL j.done n.txn = none := by
    cases hz : lkL j.done n.txn with
    | none => rfl
    | some s => rw [hj.o _ _ hz] at hl; cases hl
  have hr2 : rightN (aboN n.txn) = true := right_abort h0
  have hE : appE j (aboN n.txn) = 0 := by
    unfold appE
    rw [if_neg (by rw [hr2]; decide), if_neg (show ¬ (14 : Int) = 12 by decide), if_neg (show ¬ (14 : Int) = 13 by decide), if_pos rfl]
    exact if_pos hl
  have hS : appS j (aboN n.txn) = ⟨{ j.v with its := delL j.v.its n.txn }, delL j.parts n.txn, j.done⟩ := by
    unfold appS
    rw [if_neg (by rw [hE]; decide), if_neg (show ¬ (14 : Int) = 12 by decide), if_neg (show ¬ (14 : Int) = 13 by decide), if_pos rfl]
  refine ⟨⟨rfl, hd, hE, ?_, hr2⟩, by rw [hS], fun t h => ?_⟩
  · rw [hS]
    refine ⟨(hj.w.free _).mono (by omega), delL_ok hj.kp _, hj.kd, fun t s h => ?_, hj.p, hj.m, hj.ne⟩
    dsimp only at h ⊢
    rw [lkL_delI]
    by_cases ht : t = n.txn
    · rw [if_pos ht]
    · rw [if_neg ht]; exact hj.o t s h
  · rw [hS] at h
    dsimp only at h
    rw [lkL_delI] at h
    by_cases ht : t = n.txn
    · rw [if_pos ht] at h; cases h
    · rw [if_neg ht] at h; exact ⟨ht, h⟩
theorem plan_cases {j : JS} {k : Nat} (hj : JOK j k) {n : NA} (h0 : 0 ≤ n.txn) (f : Int) :
    (planV j f n).rec_ = [] ∨
    ((planV j f n).rec_ = [{ n with kind := 12 }] ∧ Once j k n { n with kind := 12 } ∧ (appS j { n with kind := 12 }).done = j.done ∧ ∀ t, (lkL (appS j { n with kind := 12 }).v.its t).isSome = true → t = n.txn ∨ (lkL j.v.its t).isSome = true) ∨
    ((planV j f n).rec_ = [comN n.txn n.stamp] ∧ (lkL j.v.its n.txn).isSome = true ∧ Once j k n (comN n.txn n.stamp) ∧ 0 < n.stamp ∧ (appS j (comN n.txn n.stamp)).done = putL j.done n.txn n.stamp ∧ ∀ t, (lkL (appS j (comN n.txn n.stamp)).v.its t).isSome = true → (lkL j.v.its t).isSome = true) ∨
    ((planV j f n).rec_ = [aboN n.txn] ∧ Once j k n (aboN n.txn) ∧ (appS j (aboN n.txn)).done = j.done ∧ ∀ t, (lkL (appS j (aboN n.txn)).v.its t).isSome = true → t ≠ n.txn ∧ (lkL j.v.its t).isSome = true) := by
  unfold planV
  cases hr : rightN n with
  | false => left; rfl
  | true =>
  rw [if_neg (by decide)]
  by_cases h3 : n.kind = 3
  · rw [if_pos h3]
    by_cases hf : f = 0
    · rw [if_pos hf]
      unfold prepV
      by_cases c1 : (lkL j.done n.txn).isSome = true ∨ checkV j.v.dim n.ops ≠ 0
      · rw [if_pos c1]; left; rfl
      rw [if_neg c1]
      simp only [not_or, Decidable.not_not] at c1
      by_cases c2 : (lkL j.v.its n.txn).isSome = true
      · rw [if_pos c2]; left; rfl
      rw [if_neg c2]
      cases c3 : takenV j.v n.ops with
      | true => left; rfl
      | false =>
        rw [if_neg (by decide)]
        right; left
        exact ⟨rfl, once_prep hj hr h3 (isSome_ne c1.1) c1.2 (isSome_ne c2) c3⟩
    · rw [if_neg hf]; left; rfl
  rw [if_neg h3]
  by_cases h5 : n.kind = 5
  · rw [if_pos h5]
    unfold deciV
    by_cases c1 : n.code ≠ 0
    · rw [if_pos c1]
      by_cases c2 : (lkL j.v.its n.txn).isSome = true ∧ f = 0
      · rw [if_pos c2]
        right; right; right
        exact ⟨rfl, once_abort hj h0 c2.1⟩
      · rw [if_neg c2]; left; rfl
    rw [if_neg c1]
    cases hd : lkL j.done n.txn with
    | some s =>
      dsimp only
      by_cases c2 : s = n.stamp
      · rw [if_pos c2]; left; rfl
      · rw [if_neg c2]; left; rfl
    | none =>
      dsimp only
      cases hl : lkL j.v.its n.txn with
      | none => left; rfl
      | some i =>
        dsimp only
        by_cases c3 : max i.1 j.v.mark < n.stamp ∧ aboveV j.v n.stamp i.2 = true
        · rw [if_pos c3]
          right; right; left
          exact ⟨rfl, rfl, once_commit hj hr hd hl c3.1 c3.2⟩
        · rw [if_neg c3]; left; rfl
  rw [if_neg h5]
  by_cases h7 : n.kind = 7
  · rw [if_pos h7]
    cases hd : lkL j.done n.txn with
    | some s => left; rfl
    | none => left; rfl
  · rw [if_neg h7]; left; rfl
end Go.Proofs.YtkleenllkjodoaaGreatDoor
namespace Go.Proofs.YtkleenllkjodoaaGreatDoor
open Go Go.SX
attribute [local irreducible] swp opsS thenS blockS retS CallsS St Ent YieldS anyS drawS
end Go.Proofs.YtkleenllkjodoaaGreatDoor
namespace Go.Proofs.YtkleenllkjodoaaGreatDoor
open Go Go.SX
attribute [local irreducible] swp opsS thenS blockS retS CallsS St Ent YieldS anyS drawS
end Go.Proofs.YtkleenllkjodoaaGreatDoor
namespace Go.Proofs.YtkleenllkjodoaaGreatDoor
open Go Go.SX
attribute [local irreducible] swp opsS thenS blockS retS CallsS St Ent YieldS anyS drawS
end Go.Proofs.YtkleenllkjodoaaGreatDoor
namespace Go.Proofs.YtkleenllkjodoaaGreatDoor
open Go Go.SX
attribute [local irreducible] swp opsS thenS blockS retS CallsS St Ent YieldS anyS drawS
end Go.Proofs.YtkleenllkjodoaaGreatDoor
namespace Go.Proofs.YtkleenllkjodoaaGreatDoor
open Go Go.SX
attribute [local irreducible] swp opsS thenS blockS retS CallsS St Ent YieldS anyS drawS
end Go.Proofs.YtkleenllkjodoaaGreatDoor
namespace Go.Proofs.YtkleenllkjodoaaGreatDoor
open Go Go.SX
attribute [local irreducible] swp opsS thenS blockS retS CallsS St Ent YieldS anyS drawS
structure okN (M : Nat → Option Obj) (n : NV) : Prop where
  p : SlM M n.pa n.parts.length 1 (n.parts.map I64)
  o : SlM M n.oa n.ops.length 2 (n.ops.flatMap OV.cells) ∧ okR M n.ops
  v : SlM M n.va n.vec.length 1 (n.vec.map I32)
  h : SlM M n.ha n.hits.length 3 (n.hits.flatMap HV.cells)
  hv : ∀ h ∈ n.hits, SlM M h.a h.vec.length 1 (h.vec.map I32)
theorem okN.mono {M M' : Nat → Option Obj} {n : NV} (h : okN M n) (hl : leM M M') : okN M' n := ⟨h.p.mono hl, ⟨h.o.1.mono hl, fun o ho => (h.o.2 o ho).mono hl⟩, h.v.mono hl, h.h.mono hl, fun x hx => (h.hv x hx).mono hl⟩
def TabM (M : Nat → Option Obj) : Prop := SlM M (some ⟨0, 0, none⟩) 46 1 sortsC
theorem TabM.mono {M M' : Nat → Option Obj} (h : TabM M) (hl : leM M M') : TabM M' := SlM.mono h hl
structure NumN (n : NV) : Prop where
  kind : 0 ≤ n.kind ∧ n.kind ≤ 255
  txn : 0 ≤ n.txn
  stamp : 0 ≤ n.stamp
  mark : 0 ≤ n.mark
  after : 0 ≤ n.after
theorem SlM.nil0 {M : Nat → Option Obj} {a : Option Addr} {sz : Nat} : SlM M a 0 sz [] := ⟨by simp, .inl rfl⟩
theorem lockS_dim (st : VS) (t a : Int) (ops : VL) : (lockS st t a ops).dim = st.dim := by
  unfold lockS
  split <;> rfl
theorem applyS_dim (st : VS) (t s : Int) : (applyS st t s).dim = st.dim := by
  unfold applyS
  split
  · rfl
  · split <;> rfl
theorem sweepS_dim (st : VS) (s : Int) : (sweepS st s).dim = st.dim := by
  unfold sweepS
  split <;> rfl
structure PV where
  a : Option Addr
  c : Nat
  l : List Int
abbrev PV.val (v : PV) : Value := .slice v.a v.l.length v.c
structure JQ (M : Nat → Option Obj) (j : JS) (sf : Int) (ps : List (Int × PV)) : Prop where
  s1 : 1 ≤ sf
  s2 : sf = j.v.dim
  pt : ps.map (fun u => (u.1, u.2.l)) = j.parts
  ok : ∀ u ∈ ps, SlM M u.2.a u.2.l.length 1 (u.2.l.map I64)
theorem JQ.mono {M M' : Nat → Option Obj} {j : JS} {self : Int} {ps : List (Int × PV)} (h : JQ M j self ps) (hl : leM M M') : JQ M' j self ps := ⟨h.s1, h.s2, h.pt, fun u hu => (h.ok u hu).mono hl⟩
structure JX where
  v : Nat
  mp : Nat
  md : Nat
  self : Int
  ps : List (Int × PV)
section
variable {n : Nat} {ops rest : List Oper} {cd : Code} {Q : Post} {f : Env} {L L0 : List HP} {M : Nat → Option Obj} {j : JS}
end
end Go.Proofs.YtkleenllkjodoaaGreatDoor
namespace Go.Proofs.YtkleenllkjodoaaGreatDoor
open Go Go.SX
attribute [local irreducible] swp opsS thenS blockS retS CallsS St Ent YieldS anyS drawS
abbrev IV.zero : IV := ⟨0, 0, none, 0, []⟩
theorem okI.zero {M : Nat → Option Obj} : okI M IV.zero := ⟨SlM.nil0, fun o ho => by cases ho⟩
end Go.Proofs.YtkleenllkjodoaaGreatDoor
namespace Go.SX
open Go
section
variable {P : Program} {n : Nat} {ops : List Oper} {Q : Post} {f : Env} {A L : List HP} {cs : List Nat}
end
section
variable {P : Program} {n : Nat} {ops : List Oper} {Q : Post} {f : Env} {A L : List HP} {E cs σ : List Nat} {listed : Array Bool} {held : Bool}
end
section
variable {P : Program} {n : Nat} {ops rest : List Oper} {Q : Post} {f : Env} {A L : List HP} {d : Tmp} {ty : TypeId} {pos : String} {af : Array Edge}
end
end Go.SX
namespace Go.Proofs.YtkleenllkjodoaaGreatDoor
open Go Go.SX
attribute [local irreducible] swp opsS thenS blockS retS CallsS St Ent YieldS anyS drawS
end Go.Proofs.YtkleenllkjodoaaGreatDoor
namespace Go.Proofs.YtkleenllkjodoaaGreatDoor
open Go Go.SX
attribute [local irreducible] swp opsS thenS blockS retS CallsS St Ent YieldS anyS drawS
end Go.Proofs.YtkleenllkjodoaaGreatDoor
namespace Go.Proofs.YtkleenllkjodoaaGreatDoor
open Go Go.SX
attribute [local irreducible] swp opsS thenS blockS retS CallsS St Ent YieldS anyS drawS
end Go.Proofs.YtkleenllkjodoaaGreatDoor
namespace Go.Proofs.YtkleenllkjodoaaGreatDoor
open Go Go.SX
attribute [local irreducible] swp opsS thenS blockS retS CallsS St Ent YieldS anyS drawS
theorem P_one (xs : List Int) : (xs.map I64).all (·.oneCell') = true := by simp [Value.oneCell']
theorem putL_map {κ α β : Type} [DecidableEq κ] (f : α → β) (m : List (κ × α)) (x : κ) (a : α) : (putL m x a).map (fun u => (u.1, f u.2)) = putL (m.map fun u => (u.1, f u.2)) x (f a) := by
  unfold putL
  rw [List.any_map]
  have : ((fun p : κ × β => decide (p.1 = x)) ∘ fun u : κ × α => (u.1, f u.2)) = fun p => decide (p.1 = x) := rfl
  rw [this]
  cases m.any fun p => decide (p.1 = x) with
  | true =>
    simp only [if_true, List.map_map]
    refine List.map_congr_left fun u _ => ?_
    show (_ : κ × β) = if u.1 = x then (x, f a) else (u.1, f u.2)
    by_cases h : u.1 = x
    · simp [h]
    · simp [h]
  | false => simp
theorem JQ.put {M : Nat → Option Obj} {j j' : JS} {sf : Int} {ps : List (Int × PV)} (h : JQ M j sf ps) {t : Int} {v : PV} (hv : SlM M v.a v.l.length 1 (v.l.map I64)) (hj : j'.parts = putL j.parts t v.l) (hdm : j'.v.dim = j.v.dim := by first | rfl | exact lockS_dim _ _ _ _ | exact applyS_dim _ _ _ | exact sweepS_dim _ _) : JQ M j' sf (putL ps t v) := by
  refine ⟨h.s1, h.s2.trans hdm.symm, by rw [hj, ← h.pt, putL_map (fun v : PV => v.l)], fun u hu => ?_⟩
  unfold putL at hu
  split at hu
  · obtain ⟨w, hw, rfl⟩ := List.mem_map.1 hu
    split
    · exact hv
    · exact h.ok w hw
  · rcases List.mem_append.1 hu with hu | hu
    · exact h.ok u hu
    · rw [List.mem_singleton.1 hu]; exact hv
theorem JQ.same {M : Nat → Option Obj} {j j' : JS} {sf : Int} {ps : List (Int × PV)} (h : JQ M j sf ps) (hj : j'.parts = j.parts) (hdm : j'.v.dim = j.v.dim := by first | rfl | exact lockS_dim _ _ _ _ | exact applyS_dim _ _ _ | exact sweepS_dim _ _) : JQ M j' sf ps := ⟨h.s1, h.s2.trans hdm.symm, by rw [hj, h.pt], h.ok⟩
end Go.Proofs.YtkleenllkjodoaaGreatDoor
namespace Go.Proofs.YtkleenllkjodoaaGreatDoor
open Go Go.SX
attribute [local irreducible] swp opsS thenS blockS retS CallsS St Ent YieldS anyS drawS
abbrev J0 (dim : Int) : JS := ⟨⟨dim, [], [], 0⟩, [], []⟩
theorem J0.ok {dim : Int} (h1 : 1 ≤ dim) (h2 : dim ≤ 8) : JOK (J0 dim) 0 :=
  ⟨⟨⟨h1, h2, Nat.le_refl _, (fun i hi => by cases hi), Nat.le_refl _, (fun c hc => by cases hc)⟩, by simp [keysOK], by simp [keysOK]⟩, by simp [keysOK], by simp [keysOK], (fun t s h => by cases h), (fun t s h => by cases h), Int.le_refl _, (fun c hc => by cases hc)⟩
section
variable {n : Nat} {ops rest : List Oper} {cd : Code} {Q : Post} {f : Env} {L L0 : List HP} {M : Nat → Option Obj} {j : JS}
end
abbrev exA : NA := { NA.zero with kind := 3, txn := 7, ops := [(1, [5])] }
abbrev J1 : JS := ⟨⟨1, [], [(7, 0, [(1, [5])])], 0⟩, [(7, [])], []⟩
abbrev J2 : JS := ⟨⟨1, [(1, [(5, [5])])], [], 0⟩, [], [(7, 5)]⟩
theorem ex1 : planV (J0 1) 0 exA = ⟨[{ exA with kind := 12 }], [voteN 7 0], [voteN 7 8]⟩ := by kernel_rfl
theorem ex2 : appS (J0 1) { exA with kind := 12 } = J1 := by kernel_rfl
theorem ex3 : planV J1 0 { NA.zero with kind := 5, txn := 7, stamp := 5 } = ⟨[comN 7 5], [ackN 7], []⟩ := by kernel_rfl
theorem ex4 : appS J1 (comN 7 5) = J2 := by kernel_rfl
theorem J1.ok : JOK J1 1 := by
  have h := plan_cases (J0.ok (dim := 1) (by decide) (by decide)) (n := exA) (by decide) 0
  rw [ex1] at h
  rcases h with h | h | h | h
  · cases h
  · have := h.2.1.ok
    rw [ex2] at this; exact this
  · simp at h
  · simp at h
theorem J2.ok : JOK J2 2 := by
  have h := plan_cases J1.ok (n := { NA.zero with kind := 5, txn := 7, stamp := 5 }) (by decide) 0
  rw [ex3] at h
  rcases h with h | h | h | h
  · cases h
  · simp at h
  · have := h.2.2.1.ok
    rw [ex4] at this; exact this
  · simp at h
end Go.Proofs.YtkleenllkjodoaaGreatDoor
namespace Go.Proofs.YtkleenllkjodoaaGreatDoor
open Go Go.SX
attribute [local irreducible] swp opsS thenS blockS retS CallsS St Ent YieldS anyS drawS
abbrev HV.ov (h : HV) : OV := ⟨h.id, h.a, h.c, h.vec⟩
def fewH (k : Nat) (l : List (Int × Int × List Int)) : List (Int × Int × List Int) := (l.take k).map fun h => (h.1, h.2.1, h.2.2.take 8)
def NA.few (n : NA) : NA := { n with parts := n.parts.take 6, ops := fewV 18 n.ops, vec := n.vec.take 10, hits := fewH 18 n.hits }
structure CapN (n : NV) : Prop where
  p : n.parts.length ≤ n.pc
  ov : ∀ o ∈ n.ops, o.vec.length ≤ o.c
  v : n.vec.length ≤ n.vc
  hv : ∀ h ∈ n.hits, h.vec.length ≤ h.c
  p2 : n.parts.length ≤ 9223372036854775807
  o2 : n.ops.length ≤ 9223372036854775807
  v2 : n.vec.length ≤ 9223372036854775807
  h2 : n.hits.length ≤ 9223372036854775807
end Go.Proofs.YtkleenllkjodoaaGreatDoor
namespace Go.Proofs.YtkleenllkjodoaaGreatDoor
open Go Go.SX
attribute [local irreducible] swp opsS thenS blockS retS CallsS St Ent YieldS anyS drawS
structure TR where
  txn : Int
  batch : Int
  stamp : Int
  after : Int
  who : Int
  parts : List Int
  yes : List Int
  acked : List Int
  ops : VL
structure TV where
  txn : Int
  batch : Int
  stamp : Int
  after : Int
  who : Int
  pa : Option Addr
  pc : Nat
  parts : List Int
  ya : Option Addr
  yc : Nat
  yes : List Int
  ka : Option Addr
  kc : Nat
  acked : List Int
  oa : Option Addr
  oc : Nat
  ops : List OV
abbrev TV.abs (t : TV) : TR := ⟨t.txn, t.batch, t.stamp, t.after, t.who, t.parts, t.yes, t.acked, t.ops.map OV.abs⟩
abbrev TV.cells (t : TV) : List Value := [.int .u64 t.txn, .int .u64 t.batch, .int .u64 t.stamp, .int .u64 t.after, .int .i64 t.who, .slice t.pa t.parts.length t.pc, .slice t.ya t.yes.length t.yc, .slice t.ka t.acked.length t.kc, .slice t.oa t.ops.length t.oc]
structure JG where
  shards : Int
  dim : Int
  epoch : Int
  seq : Int
  last : Int
  tr : List (Int × TR)
  done : List (Int × Int)
structure okT (M : Nat → Option Obj) (t : TV) : Prop where
  p : SlM M t.pa t.parts.length 1 (t.parts.map I64)
  y : SlM M t.ya t.yes.length 1 (t.yes.map I64)
  k : SlM M t.ka t.acked.length 1 (t.acked.map I64)
  o : SlM M t.oa t.ops.length 2 (t.ops.flatMap OV.cells)
  ov : okR M t.ops
  pl : t.parts.length ≤ 1000000
  yl : t.yes.length ≤ 1000000
  kl : t.acked.length ≤ 1000000
  ol : t.ops.length ≤ 1000000
theorem okT.mono {M M' : Nat → Option Obj} {t : TV} (h : okT M t) (hl : leM M M') : okT M' t := ⟨h.p.mono hl, h.y.mono hl, h.k.mono hl, h.o.mono hl, fun o ho => (h.ov o ho).mono hl, h.pl, h.yl, h.kl, h.ol⟩
abbrev TB := Int × Nat × TV
abbrev ptT (t : Nat × TV) : Value := .pointer (some ⟨t.1, 0, none⟩)
structure GQ' (M : Nat → Option Obj) (j : JG) (ts : List TB) : Prop where
  s1 : 1 ≤ j.shards
  s2 : j.shards ≤ 4
  tr : ts.map (fun u => (u.1, u.2.2.abs)) = j.tr
  ok : ∀ u ∈ ts, okT M u.2.2
theorem GQ'.mono {M M' : Nat → Option Obj} {j : JG} {ts : List TB} (h : GQ' M j ts) (hl : leM M M') : GQ' M' j ts := ⟨h.s1, h.s2, h.tr, fun u hu => (h.ok u hu).mono hl⟩
abbrev gT (mt : Nat) (ts : List TB) : HP := mpO U64 ptT mt ts
structure GX where
  mt : Nat
  md : Nat
  ts : List TB
section
variable {n : Nat} {ops rest : List Oper} {cd : Code} {Q : Post} {f : Env} {L L0 : List HP} {M : Nat → Option Obj} {j : JG}
end
theorem erase_perm {α : Type} : ∀ (l : List α) (k : Nat) (x : α), l[k]? = some x → l.Perm (x :: l.eraseIdx k)
  | [], k, x, h => by simp at h
  | a :: l, 0, x, h => by
    simp only [List.getElem?_cons_zero, Option.some.injEq] at h
    subst h
    exact List.Perm.refl _
  | a :: l, k + 1, x, h => by
    simp only [List.getElem?_cons_succ] at h
    exact ((erase_perm l k x h).cons a).trans (List.Perm.swap x a _)
theorem set_perm {α : Type} : ∀ (l : List α) (k : Nat) (x : α), k < l.length → (x :: l.eraseIdx k).Perm (l.set k x)
  | [], k, x, h => by simp at h
  | a :: l, 0, x, h => List.Perm.refl _
  | a :: l, k + 1, x, h => by
    simp only [List.length_cons] at h
    exact (List.Perm.swap a x _).trans ((set_perm l k x (by omega)).cons a)
end Go.Proofs.YtkleenllkjodoaaGreatDoor
namespace Go.Proofs.YtkleenllkjodoaaGreatDoor
open Go Go.SX
attribute [local irreducible] swp opsS thenS blockS retS CallsS St Ent YieldS anyS drawS
structure FV where
  a : Option Addr
  c : Nat
  bs : List UInt8
  firm : Nat
abbrev FV.cells (v : FV) : List Value := [.slice v.a v.bs.length v.c, .int .i64 v.firm]
abbrev DE := List UInt8 × Nat × FV
abbrev DE.abs (u : DE) : List UInt8 × List UInt8 × Nat := (u.1, u.2.2.bs, u.2.2.firm)
abbrev ptF (t : Nat × FV) : Value := .pointer (some ⟨t.1, 0, none⟩)
abbrev oneP (t : Nat × FV) : HP := pt t.1 (cl t.2.cells 84)
abbrev oneS (t : Nat × FV) : HP := slO 5 1 t.2.a t.2.bs.length t.2.c (t.2.bs.map B)
def fsH (ts : List DE) : HP := allH ((ts.map fun u => oneP u.2) ++ (ts.map fun u => oneS u.2))
structure DK where
  left : Int
  down : Bool
  room : Int
  fs : List (List UInt8 × List UInt8 × Nat)
def usedD (l : List (List UInt8 × List UInt8 × Nat)) : Nat := (l.map fun u => u.2.1.length).sum
structure DOK (d : DK) (ts : List DE) : Prop where
  fs : ts.map DE.abs = d.fs
  key : keysOK ts
  lm : -1 ≤ d.left ∧ d.left ≤ 1000000
  rm : 0 ≤ d.room ∧ d.room ≤ 1048576
  used : (usedD d.fs : Int) ≤ d.room
  few : ts.length ≤ 16
  firm : ∀ u ∈ ts, u.2.2.firm ≤ u.2.2.bs.length
abbrev dP (p mp : Nat) (d : DK) : HP := pt p (cl [.int .i64 d.left, .bool d.down, .int .i64 d.room, .map (some mp)] 81)
abbrev dM (mp : Nat) (ts : List DE) : HP := mpO str ptF mp ts
structure DX where
  mp : Nat
  ts : List DE
def diskH (p : Nat) (d : DK) : HP := exH fun x : DX => allH [pureH (DOK d x.ts), dP p x.mp d, dM x.mp x.ts, fsH x.ts]
theorem disk_shut {p mp : Nat} {d : DK} {ts : List DE} {L : List HP} (h : DOK d ts) : Ent (dP p mp d :: dM mp ts :: fsH ts :: L) (diskH p d :: L) :=
  Ent.trans (Ent.shut_pure h) (Ent.trans (Ent.shut_all (L := [_, _, _, _])) (Ent.shut_ex (P := fun x : DX => allH [pureH (DOK d x.ts), dP p x.mp d, dM x.mp x.ts, fsH x.ts]) ⟨mp, ts⟩))
theorem calls_disk {g : FuncId} {args : List Value} {R : Value → List HP → Prop} {p : Nat} {d : DK} {L : List HP}
    (h : ∀ mp ts, DOK d ts → CallsS Tryz.prog g args (dP p mp d :: dM mp ts :: fsH ts :: L) R) : CallsS Tryz.prog g args (diskH p d :: L) R :=
  CallsS.ex fun x => CallsS.all (CallsS.pure fun hx => h x.mp x.ts hx)
class PickK (p : Nat) (L : List HP) (d : outParam DK) (L0 : outParam (List HP)) : Prop where
  ent : Ent L (diskH p d :: L0)
instance PickK.here {p : Nat} {L : List HP} {d : DK} : PickK p (diskH p d :: L) d L := ⟨Ent.refl _⟩
instance (priority := low) PickK.there {p : Nat} {A : HP} {L L0 : List HP} {d : DK} [h : PickK p L d L0] : PickK p (A :: L) d (A :: L0) := ⟨(h.ent.cons).trans (Ent.perm (.swap _ _ _))⟩
section
variable {n : Nat} {ops rest : List Oper} {cd : Code} {Q : Post} {f : Env} {L L0 L1 : List HP} {d : DK}
theorem swp_disk (p : Nat) [hp : PickK p L d L0] (h : ∀ mp ts, DOK d ts → swp Tryz.prog n cd Q f (dP p mp d :: dM mp ts :: fsH ts :: L0)) : swp Tryz.prog n cd Q f L :=
  swp_ent hp.ent (swp_ex fun x => swp_all (swp_pure fun hx => h x.mp x.ts hx))
theorem S.ck {dd : Tmp} {ty : TypeId} {pos : String} {af : Array Edge} {g : FuncId} {xs : Array Operand} {ats : Array TypeId} {args : List Value} {R : Value → List HP → Prop} (p : Nat) [hp : PickK p L d L0] [he : Go.SX.Enters Tryz.prog g]
    (hx : argsL f xs.toList = some args) (hc : CallsS Tryz.prog g args (diskH p d :: L0) R) (hk : ∀ v L', R v L' → opsS Tryz.prog n ops rest Q (upd f dd v) L') :
    opsS Tryz.prog n ops (⟨some dd, .call ⟨.value (.func g), xs, ats⟩, ty, pos, af, none⟩ :: rest) Q f L := opsS_ent hp.ent (S.cr hx hc hk)
theorem S.ckm {dd : Tmp} {ty : TypeId} {pos : String} {af : Array Edge} {g : FuncId} {xs : Array Operand} {ats : Array TypeId} {args : List Value} {R : Value → List HP → Prop} {M : Nat → Option Obj} (p : Nat) [hp : PickK p L d L0] [hm : PickM L0 M L1] [he : Go.SX.Enters Tryz.prog g]
    (hx : argsL f xs.toList = some args) (hc : CallsS Tryz.prog g args (diskH p d :: roM M :: L1) R) (hk : ∀ v L', R v L' → opsS Tryz.prog n ops rest Q (upd f dd v) L') :
    opsS Tryz.prog n ops (⟨some dd, .call ⟨.value (.func g), xs, ats⟩, ty, pos, af, none⟩ :: rest) Q f L := opsS_ent (hp.ent.trans (Ent.cons hm.ent)) (S.cr hx hc hk)
end
theorem fs_out {ts : List DE} {k : Nat} {u : DE} (h : ts[k]? = some u) {L : List HP} : Ent (fsH ts :: L) (oneP u.2 :: oneS u.2 :: fsH (ts.eraseIdx k) :: L) := by
  refine Ent.trans Ent.open_all (Ent.trans (Ent.perm ?_) (Ent.cons (Ent.cons (Ent.shut_all (L := ((ts.eraseIdx k).map fun u => oneP u.2) ++ (ts.eraseIdx k).map fun u => oneS u.2)))))
  have h1 := (erase_perm ts k u h).map fun u => oneP u.2
  have h2 := (erase_perm ts k u h).map fun u => oneS u.2
  have h3 := (h1.append h2).append_right L
  refine h3.trans ?_
  simp only [List.map_cons, List.cons_append, List.append_assoc]
  exact (List.perm_middle).cons _
theorem fs_of {ts ts' : List DE} {u : DE} (hp : (u :: ts).Perm ts') {L : List HP} : Ent (oneP u.2 :: oneS u.2 :: fsH ts :: L) (fsH ts' :: L) := by
  refine Ent.trans (Ent.cons (Ent.cons Ent.open_all)) (Ent.trans (Ent.perm ?_) (Ent.shut_all (L := (ts'.map fun u => oneP u.2) ++ ts'.map fun u => oneS u.2)))
  have h1 := hp.map fun u => oneP u.2
  have h2 := hp.map fun u => oneS u.2
  have h3 := (h1.append h2).append_right L
  refine List.Perm.trans ?_ h3
  simp only [List.map_cons, List.cons_append, List.append_assoc]
  exact (List.perm_middle.symm).cons _
theorem fs_in {ts : List DE} {k : Nat} (hk : k < ts.length) (u : DE) {L : List HP} : Ent (oneP u.2 :: oneS u.2 :: fsH (ts.eraseIdx k) :: L) (fsH (ts.set k u) :: L) := fs_of (set_perm ts k u hk)
theorem fs_new (ts : List DE) (u : DE) {L : List HP} : Ent (oneP u.2 :: oneS u.2 :: fsH ts :: L) (fsH (ts ++ [u]) :: L) := fs_of (List.perm_append_singleton u ts).symm
def spendB (d : DK) : Bool := !(d.down || decide (d.left = 0))
def spendD (d : DK) : DK := if spendB d then { d with left := max (d.left - 1) (-1) } else { d with down := true }
set_option maxHeartbeats 1000000 in
theorem spend_spec (p mp : Nat) (d : DK) (L : List HP) (hl : -1 ≤ d.left ∧ d.left ≤ 1000000) :
    CallsS Tryz.prog 70 [.pointer (some ⟨p, 0, none⟩)] (dP p mp d :: L) (fun r L' => r = .bool (spendB d) ∧ L' = dP p mp (spendD d) :: L) := by
  refine CallsS.of_body Tryz.func70 rfl rfl rfl ?_
  obtain ⟨left, down, room, fs⟩ := d
  dsimp only at hl
  show swp _ _ _ _ _ (pt p (cl [.int .i64 left, .bool down, .int .i64 room, .map (some mp)] 81) :: L)
  cases down with
  | true =>
    refine Q.r ?_; (repeat (intro b1; refine Q.r ?_))
    exact N.r1 (RV.tmp rfl RV.nil) (Ent.refl _) ⟨rfl, rfl⟩
  | false =>
    by_cases h0 : left = 0
    · subst h0
      refine Q.r ?_; (repeat (intro b1; refine Q.r ?_))
      exact N.r1 (RV.tmp rfl RV.nil) (Ent.refl _) ⟨rfl, rfl⟩
    · refine Q.r ?_; (repeat (intro b1; refine Q.r ?_))
      have e : spendB ⟨left, false, room, fs⟩ = true := by unfold spendB; rw [decide_eq_false h0]; rfl
      exact N.r1 (RV.tmp rfl RV.nil) (Ent.refl _) ⟨by rw [e], by unfold spendD; rw [e]; rfl⟩
def rightS (bs : List UInt8) : Prop := 1 ≤ bs.length ∧ bs.length ≤ 8 ∧ ∀ b ∈ bs, (97 ≤ b.toNat ∧ b.toNat ≤ 122) ∨ (48 ≤ b.toNat ∧ b.toNat ≤ 57)
set_option maxHeartbeats 1000000 in
theorem right_spec (bs : List UInt8) (L : List HP) (h : rightS bs) :
    CallsS Tryz.prog 52 [str bs] L (fun r L' => r = .bool true ∧ L' = L) := by
  refine CallsS.of_body Tryz.func52 rfl rfl rfl ?_
  obtain ⟨h1, h8, hb⟩ := h
  have h128 : ∀ b ∈ bs, b.toNat < 128 := fun b hbm => by rcases hb b hbm with h | h <;> omega
  refine Q.r ?_; (repeat (intro b1; refine Q.r ?_))
  refine S.rgs rfl (fun r => ?_)
  refine Q.r ?_; (repeat (intro b1; refine Q.r ?_))
  refine swp_cutB (σ := Unit) (fun _ => [(0, str bs)]) (fun _ => L) (fun _ => True) ?_ ?_
  · refine swp_loop (σ := Nat) (fun k => [(0, str bs), (6, .pointer (some ⟨r, 0, none⟩))]) (fun k => pt r (.stringIter ⟨bs.toArray⟩ k) :: L) (fun k => k ≤ bs.length) (fun k => bs.length - k) 0 ⟨rfl, rfl, trivial⟩ (Ent.refl _) (by omega) ?_
    intro k hk
    refine Q.r ?_; (repeat (intro b1; refine Q.r ?_))
    refine S.nxs (k := k) rfl (fun hle => ?_) (fun b hbk => ?_) h128
    · refine Q.r ?_; (repeat (intro b1; refine Q.r ?_))
      exact ⟨(), ⟨rfl, trivial⟩, Ent.drop (Ent.refl _), trivial⟩
    · have hlt : k < bs.length := (List.getElem?_eq_some_iff.1 hbk).1
      have hq := hb b (List.mem_of_getElem? hbk)
      by_cases hlet : 97 ≤ b.toNat
      · have h122 : b.toNat ≤ 122 := by omega
        refine Q.r ?_; (repeat (intro b1; refine Q.r ?_))
        exact ⟨k + 1, ⟨rfl, rfl, trivial⟩, Ent.refl _, by omega, by omega⟩
      · have h48 : 48 ≤ b.toNat := by omega
        have h57 : b.toNat ≤ 57 := by omega
        refine Q.r ?_; (repeat (intro b1; refine Q.r ?_))
        exact ⟨k + 1, ⟨rfl, rfl, trivial⟩, Ent.refl _, by omega, by omega⟩
  · intro _ _
    have hne : bs ≠ [] := by intro h; subst h; exact absurd h1 (by decide)
    have h8' : (bs.length : Int) ≤ 8 := by omega
    refine Q.r ?_; (repeat (intro b1; refine Q.r ?_))
    rw [decide_eq_false hne]
    refine Q.r ?_; (repeat (intro b1; refine Q.r ?_))
    refine S.y (Y.stL rfl) ?_
    refine Q.r ?_; (repeat (intro b1; refine Q.r ?_))
    refine N.r1 (RV.tmp rfl RV.nil) (Ent.refl _) ⟨?_, rfl⟩
    rw [decide_eq_true h8']
end Go.Proofs.YtkleenllkjodoaaGreatDoor
namespace Go.Proofs.YtkleenllkjodoaaGreatDoor
open Go Go.SX
attribute [local irreducible] swp opsS thenS blockS retS CallsS St Ent YieldS anyS drawS
abbrev ptrD (p : Nat) : Value := .pointer (some ⟨p, 0, none⟩)
theorem lk_fs {ts : List DE} {fs : List (List UInt8 × List UInt8 × Nat)} (h : ts.map DE.abs = fs) (x : List UInt8) : lkL fs x = (lkL (α := Nat × FV) ts x).map fun u => (u.2.bs, u.2.firm) := by
  subst h
  induction ts with
  | nil => rfl
  | cons t ts ih =>
    unfold lkL at ih ⊢
    rw [List.map_cons, List.find?_cons, List.find?_cons]
    by_cases hx : t.1 = x
    · have : decide ((DE.abs t).1 = x) = true := decide_eq_true hx
      rw [this]; rfl
    · have : decide ((DE.abs t).1 = x) = false := decide_eq_false hx
      rw [this]; exact ih
theorem lk_ix {ts : List DE} {x : List UInt8} {u : Nat × FV} (h : lkL (α := Nat × FV) ts x = some u) : ∃ k : Nat, ts[k]? = some ((x, u) : DE) := by
  unfold lkL at h
  obtain ⟨v, hv, rfl⟩ := Option.map_eq_some_iff.1 h
  have h1 := List.mem_of_find?_eq_some hv
  have h2 := List.find?_some hv
  simp at h2
  obtain ⟨k, hk⟩ := List.mem_iff_getElem?.1 h1
  exact ⟨k, by rw [hk, ← h2]⟩
theorem lk_none {ts : List DE} {fs : List (List UInt8 × List UInt8 × Nat)} (h : ts.map DE.abs = fs) {x : List UInt8} : lkL fs x = none ↔ lkL (α := Nat × FV) ts x = none := by
  rw [lk_fs h, Option.map_eq_none_iff]
theorem spendD_fs (d : DK) : (spendD d).fs = d.fs := by unfold spendD; split <;> rfl
theorem spendD_room (d : DK) : (spendD d).room = d.room := by unfold spendD; split <;> rfl
theorem DOK.spend {d : DK} {ts : List DE} (h : DOK d ts) : DOK (spendD d) ts := by
  have h1 := h.lm
  refine ⟨by rw [spendD_fs]; exact h.fs, h.key, ?_, by rw [spendD_room]; exact h.rm, by rw [spendD_fs, spendD_room]; exact h.used, h.few, h.firm⟩
  unfold spendD
  split
  · show -1 ≤ max (d.left - 1) (-1) ∧ max (d.left - 1) (-1) ≤ 1000000
    omega
  · exact h1
def hasD (d : DK) (n : List UInt8) : Prop := lkL d.fs n ≠ none
instance (d : DK) (n : List UInt8) : Decidable (hasD d n) := inferInstanceAs (Decidable (_ ≠ none))
abbrev sC (n : List UInt8) : List Value := [str n]
theorem flat_sC (xs : List (List UInt8)) : xs.flatMap sC = xs.map str := by induction xs with
  | nil => rfl
  | cons x xs ih => simp [List.flatMap_cons, ih]
def chgR (p : Nat) (d : DK) (ns : List (List UInt8)) (L : List HP) (R : Value → List HP → Prop) (r : Value) (L' : List HP) : Prop :=
  (spendB d = false ∧ r = .int .i64 9 ∧ L' = diskH p (spendD d) :: L) ∨ (spendB d = true ∧ (∃ n ∈ ns, ¬ hasD d n) ∧ r = .int .i64 6 ∧ L' = diskH p (spendD d) :: L) ∨ (spendB d = true ∧ (∀ n ∈ ns, hasD d n) ∧ R r L')
set_option maxHeartbeats 2000000 in
theorem change_spec (p : Nat) (d : DK) (g : FuncId) (cs : List Value) [he : Go.SX.Enters Tryz.prog g] (a : Option Addr) (c : Nat) (ns : List (List UInt8)) (L : List HP) (R : Value → List HP → Prop)
    (hns : ∀ (X : List HP), RdS (X ++ L) a ns.length 1 (ns.map str)) (hn : ns.length ≤ 1000000) (hc : spendB d = true → (∀ n ∈ ns, hasD d n) → CallsS Tryz.prog g cs (diskH p (spendD d) :: L) R) :
    CallsS Tryz.prog 49 [ptrD p, .func (.func g) #[] cs.toArray, .slice a ns.length c] (diskH p d :: L) (chgR p d ns L R) := by
  refine calls_disk fun mp ts hd => ?_
  refine CallsS.of_body Tryz.func49 rfl rfl rfl ?_
  refine Q.r ?_; (repeat (intro b1; refine Q.r ?_))
  refine S.cq (A := dP p mp d) rfl (spend_spec p mp d _ hd.lm) ?_
  rintro _ _ ⟨rfl, rfl⟩
  have hds := hd.spend
  cases hsp : spendB d with
  | false =>
    refine Q.r ?_; (repeat (intro b1; refine Q.r ?_))
    exact N.r1 (RV.tmp rfl RV.nil) (Ent.trans (M := dP p mp (spendD d) :: dM mp ts :: fsH ts :: L) (by repeat (first | exact Ent.refl _ | exact Ent.nil | refine Ent.pick ?_ | refine Ent.nilS ?_ | refine Ent.nilM ?_ | refine Ent.drop ?_)) (disk_shut hds)) (.inl ⟨hsp, rfl, rfl⟩)
  | true =>
    refine Q.r ?_; (repeat (intro b1; refine Q.r ?_))
    have hns0 := hns [dP p mp (spendD d), dM mp ts, fsH ts]
    rw [← flat_sC] at hns0
    refine swp_cutB (σ := Unit) (fun _ => [(1, .func (.func g) #[] cs.toArray)]) (fun _ => diskH p (spendD d) :: L) (fun _ => ∀ n ∈ ns, hasD d n) ?_ ?_
    · refine swp_loop (σ := Nat) (fun k => [(0, ptrD p), (1, .func (.func g) #[] cs.toArray), (18, .slice a ns.length c), (19, .int .i64 ns.length), (20, .int .i64 k)]) (fun _ => dP p mp (spendD d) :: dM mp ts :: fsH ts :: L)
        (fun k => k ≤ ns.length ∧ ∀ n ∈ ns.take k, hasD d n) (fun k => ns.length - k) 0 ⟨rfl, rfl, rfl, rfl, rfl, trivial⟩ (Ent.refl _) ⟨by omega, fun n hn => by simp at hn⟩ ?_
      rintro k ⟨hk, hall⟩
      by_cases hlt : k < ns.length
      · obtain ⟨n, hnk⟩ := mem_get hlt
        obtain ⟨b, o, rfl, hr⟩ := RdS.elem (g := sC) (fun _ => rfl) hns0 hnk rfl
        refine Q.r ?_; (repeat (intro b1; refine Q.r ?_))
        refine S.y (Y.lk false rfl rfl (fun w => Tryz.zeroValue82 w)) ?_
        cases hz : lkL (α := Nat × FV) ts n with
        | none =>
          dsimp only
          refine Q.r ?_; (repeat (intro b1; refine Q.r ?_))
          exact N.r1 (RV.tmp rfl RV.nil) (disk_shut hds) (.inr (.inl ⟨hsp, ⟨n, List.mem_of_getElem? hnk, fun h => h ((lk_none hd.fs).2 hz)⟩, rfl, rfl⟩))
        | some u =>
          dsimp only
          refine Q.r ?_; (repeat (intro b1; refine Q.r ?_))
          refine ⟨k + 1, ⟨rfl, rfl, rfl, rfl, rfl, trivial⟩, Ent.refl _, ⟨by omega, fun m hm => ?_⟩, by omega⟩
          rw [take_snoc hnk] at hm
          rcases List.mem_append.1 hm with hm | hm
          · exact hall m hm
          · rw [List.mem_singleton.1 hm]
            intro h
            rw [(lk_none hd.fs).1 h] at hz; cases hz
      · have hke : k = ns.length := by omega
        subst hke
        rw [List.take_length] at hall
        refine Q.r ?_; (repeat (intro b1; refine Q.r ?_))
        exact ⟨(), ⟨rfl, trivial⟩, disk_shut hds, hall⟩
    · intro _ hall
      refine Q.r ?_; (repeat (intro b1; refine Q.r ?_))
      refine S.crF (fs := []) (args := []) (cs := cs) rfl rfl (hc hsp hall) ?_
      intro v L' hR
      refine Q.r ?_; (repeat (intro b1; refine Q.r ?_))
      exact N.r1 (RV.tmp rfl RV.nil) (Ent.refl _) (.inr (.inr ⟨hsp, hall, hR⟩))
end Go.Proofs.YtkleenllkjodoaaGreatDoor
namespace Go.Proofs.YtkleenllkjodoaaGreatDoor
open Go Go.SX
attribute [local irreducible] swp opsS thenS blockS retS CallsS St Ent YieldS anyS drawS
theorem fs_back {ts : List DE} {k : Nat} {u : DE} (h : ts[k]? = some u) {L : List HP} : Ent (oneP u.2 :: oneS u.2 :: fsH (ts.eraseIdx k) :: L) (fsH ts :: L) := fs_of (erase_perm ts k u h).symm
section
variable {n : Nat} {ops rest : List Oper} {cd : Code} {Q : Post} {f : Env} {L L0 : List HP}
theorem opsS_fs {ts : List DE} [hp : Pick (fsH ts) L L0] {k : Nat} {u : DE} (h : ts[k]? = some u) (hk : opsS Tryz.prog n ops rest Q f (oneP u.2 :: oneS u.2 :: fsH (ts.eraseIdx k) :: L0)) : opsS Tryz.prog n ops rest Q f L := opsS_ent (hp.ent.trans (fs_out h)) hk
theorem swp_fs {ts : List DE} [hp : Pick (fsH ts) L L0] {k : Nat} {u : DE} (h : ts[k]? = some u) (hk : swp Tryz.prog n cd Q f (oneP u.2 :: oneS u.2 :: fsH (ts.eraseIdx k) :: L0)) : swp Tryz.prog n cd Q f L := swp_ent (hp.ent.trans (fs_out h)) hk
end
theorem used_ts {d : DK} {ts : List DE} (h : DOK d ts) : (ts.map fun u => u.2.2.bs.length).sum = usedD d.fs := by
  rw [← h.fs]; unfold usedD; rw [List.map_map]; rfl
def visS (ts : List DE) (vis : List Nat) : Nat := (vis.filterMap fun i => (ts[i]?).map fun u => u.2.2.bs.length).sum
theorem visS_app (ts : List DE) (a b : List Nat) : visS ts (a ++ b) = visS ts a + visS ts b := by unfold visS; rw [List.filterMap_append, List.sum_append]
theorem visS_all {ts : List DE} {vis : List Nat} (h1 : vis.Nodup) (h2 : ∀ i ∈ vis, i < ts.length) (h3 : ∀ i, i < ts.length → i ∈ vis) : visS ts vis = (ts.map fun u => u.2.2.bs.length).sum := by
  unfold visS
  exact (vis_map (fun u : DE => u.2.2.bs.length) h1 h2 h3).sum_nat
theorem visS_le {ts : List DE} {vis : List Nat} (h1 : vis.Nodup) (h2 : ∀ i ∈ vis, i < ts.length) : visS ts vis ≤ (ts.map fun u => u.2.2.bs.length).sum := by
  have h := visS_all (ts := ts) (vis := vis ++ (List.range ts.length).filter fun i => decide (i ∉ vis)) ?_ ?_ ?_
  · rw [visS_app] at h; omega
  · refine List.nodup_append.2 ⟨h1, List.Sublist.nodup List.filter_sublist List.nodup_range, fun x hx y hy e => ?_⟩
    subst e
    have := (List.mem_filter.1 hy).2
    simp at this; exact this hx
  · intro i hi
    rcases List.mem_append.1 hi with hi | hi
    · exact h2 i hi
    · exact List.mem_range.1 (List.mem_filter.1 hi).1
  · intro i hi
    by_cases h : i ∈ vis
    · exact List.mem_append.2 (.inl h)
    · exact List.mem_append.2 (.inr (List.mem_filter.2 ⟨List.mem_range.2 hi, by simpa using h⟩))
set_option maxHeartbeats 2000000 in
theorem Used_spec (p mp : Nat) (d : DK) (ts : List DE) (L : List HP) (hd : DOK d ts) :
    CallsS Tryz.prog 12 [ptrD p] (dP p mp d :: dM mp ts :: fsH ts :: L) (fun r L' => r = .int .i64 (usedD d.fs) ∧ L' = dP p mp d :: dM mp ts :: fsH ts :: L) := by
  refine CallsS.of_body Tryz.func12 rfl rfl rfl ?_
  have hu := hd.used
  have hr := hd.rm
  refine Q.r ?_; (repeat (intro b1; refine Q.r ?_))
  refine S.rg rfl (fun r => ?_)
  refine Q.r ?_; (repeat (intro b1; refine Q.r ?_))
  refine swp_cutB (σ := Unit) (fun _ => [(3, .int .i64 (usedD d.fs))]) (fun _ => dP p mp d :: dM mp ts :: fsH ts :: L) (fun _ => True) ?_ ?_
  · refine swp_loop (σ := List Nat) (fun vis => [(12, .pointer (some ⟨r, 0, none⟩)), (3, .int .i64 (visS ts vis))])
      (fun vis => dP p mp d :: itO str ptF mp r ts vis :: fsH ts :: L) (fun vis => vis.Nodup ∧ (∀ i ∈ vis, i < ts.length) ∧ visS ts vis ≤ usedD d.fs) (fun vis => ts.length - vis.length) [] ⟨rfl, rfl, trivial⟩ (by repeat (first | exact Ent.refl _ | exact Ent.nil | refine Ent.pick ?_ | refine Ent.nilS ?_ | refine Ent.nilM ?_ | refine Ent.drop ?_)) ⟨by simp, by simp, Nat.zero_le _⟩ ?_
    rintro vis ⟨hv1, hv2, hv3⟩
    refine Q.r ?_; (repeat (intro b1; refine Q.r ?_))
    refine S.nx rfl (fun hend => ?_) (fun i q hp hi => ?_)
    · refine Q.r ?_; (repeat (intro b1; refine Q.r ?_))
      refine ⟨(), ⟨?_, trivial⟩, ?_, trivial⟩
      · rw [visS_all hv1 hv2 hend, used_ts hd]; rfl
      · exact Ent.cons itO_map
    · have hil : i < ts.length := (List.getElem?_eq_some_iff.1 hp).1
      obtain ⟨hm1, hm2, hm3⟩ := vis_more hv1 hv2 hil hi
      have hle := visS_le hm1 hm2
      rw [used_ts hd] at hle
      have hap : visS ts (vis ++ [i]) = visS ts vis + q.2.2.bs.length := by
        rw [visS_app]; unfold visS; simp [hp]
      rw [hap] at hle
      refine Q.r ?_; (repeat (intro b1; refine Q.r ?_))
      refine S.y (Y.en rfl hp) ?_
      refine Q.r ?_; (repeat (intro b1; refine Q.r ?_))
      refine opsS_fs hp ?_
      refine Q.r ?_; (repeat (intro b1; refine Q.r ?_))
      refine ⟨vis ++ [i], ⟨rfl, by rw [hap]; rfl, trivial⟩, ?_, ⟨hm1, hm2, by rw [hap]; exact hle⟩, by simp; omega⟩
      exact Ent.trans (M := oneP q.2 :: oneS q.2 :: fsH (ts.eraseIdx i) :: dP p mp d :: itO str ptF mp r ts (vis ++ [i]) :: L) (by repeat (first | exact Ent.refl _ | exact Ent.nil | refine Ent.pick ?_ | refine Ent.nilS ?_ | refine Ent.nilM ?_ | refine Ent.drop ?_)) (Ent.trans (fs_back hp) (by repeat (first | exact Ent.refl _ | exact Ent.nil | refine Ent.pick ?_ | refine Ent.nilS ?_ | refine Ent.nilM ?_ | refine Ent.drop ?_)))
  · intro _ _
    refine Q.r ?_; (repeat (intro b1; refine Q.r ?_))
    exact N.r1 (RV.tmp rfl RV.nil) (Ent.refl _) ⟨rfl, rfl⟩
end Go.Proofs.YtkleenllkjodoaaGreatDoor
namespace Go.Proofs.YtkleenllkjodoaaGreatDoor
open Go Go.SX
attribute [local irreducible] swp opsS thenS blockS retS CallsS St Ent YieldS anyS drawS
set_option maxHeartbeats 1000000 in
theorem PUp_spec (p mp : Nat) (d : DK) (L : List HP) : CallsS Tryz.prog 64 [ptrD p] (dP p mp d :: L) (fun r L' => r = .bool (!d.down) ∧ L' = dP p mp d :: L) := by
  refine CallsS.of_body Tryz.func64 rfl rfl rfl ?_
  refine Q.r ?_; (repeat (intro b1; refine Q.r ?_))
  exact N.r1 (RV.tmp rfl RV.nil) (Ent.refl _) ⟨rfl, rfl⟩
set_option maxHeartbeats 1000000 in
theorem DUp_spec (p mp : Nat) (d : DK) (L : List HP) : CallsS Tryz.prog 43 [ptrD p] (dP p mp d :: L) (fun r L' => r = .bool (!d.down) ∧ L' = dP p mp d :: L) := by
  refine CallsS.of_body Tryz.func43 rfl rfl rfl ?_
  refine Q.r ?_; (repeat (intro b1; refine Q.r ?_))
  refine S.cr rfl (PUp_spec p mp d L) ?_
  rintro _ _ ⟨rfl, rfl⟩
  refine Q.r ?_; (repeat (intro b1; refine Q.r ?_))
  exact N.r1 (RV.tmp rfl RV.nil) (Ent.refl _) ⟨rfl, rfl⟩
theorem sum_mem : ∀ {l : List Nat} {x : Nat}, x ∈ l → x ≤ l.sum
  | y :: l, x, h => by
    rw [List.sum_cons]
    rcases List.mem_cons.1 h with rfl | h
    · omega
    · have := sum_mem h; omega
def D0 (room : Int) : DK := ⟨-1, false, room, []⟩
set_option maxHeartbeats 1000000 in
theorem DNew_spec (room : Int) (L : List HP) (h : 0 ≤ room ∧ room ≤ 1048576) : CallsS Tryz.prog 20 [.int .i64 room] L (fun r L' => ∃ p, r = .tuple #[ptrD p, .int .i64 0] ∧ L' = diskH p (D0 room) :: L) := by
  refine CallsS.of_body Tryz.func20 rfl rfl rfl ?_
  obtain ⟨h1, h2⟩ := h
  refine Q.r ?_; (repeat (intro b1; refine Q.r ?_))
  refine S.mkm str ptF (fun mt => ?_)
  refine Q.r ?_; (repeat (intro b1; refine Q.r ?_))
  refine N.r2 (RV.tmp rfl (RV.tmp rfl RV.nil)) ?_ ⟨b1, rfl, rfl⟩
  refine Ent.trans (M := dP b1 mt (D0 room) :: dM mt [] :: L) (by repeat (first | exact Ent.refl _ | exact Ent.nil | refine Ent.pick ?_ | refine Ent.nilS ?_ | refine Ent.nilM ?_ | refine Ent.drop ?_)) ?_
  refine Ent.trans ?_ (disk_shut (p := b1) (mp := mt) (d := D0 room) (ts := []) ⟨rfl, List.nodup_nil, ⟨by show (-1 : Int) ≤ -1; decide, by show (-1 : Int) ≤ 1000000; decide⟩, ⟨h1, h2⟩, by simpa [usedD, D0] using h1, by simp, fun u hu => by cases hu⟩)
  refine Ent.cons (Ent.cons ?_)
  exact Ent.trans (Ent.perm (List.Perm.refl _)) (Ent.shut_all (L := []))
set_option maxHeartbeats 1000000 in
theorem Arm_spec (p : Nat) (d : DK) (k : Int) (L : List HP) (hk : k ≤ 1000) : CallsS Tryz.prog 27 [ptrD p, .int .i64 k] (diskH p d :: L) (fun r L' => r = .tuple #[] ∧ L' = diskH p { d with left := max k (-1) } :: L) := by
  refine calls_disk fun mp ts hd => ?_
  refine CallsS.of_body Tryz.func27 rfl rfl rfl ?_
  refine Q.r ?_; (repeat (intro b1; refine Q.r ?_))
  exact N.n0 RV.nil (disk_shut (d := { d with left := max k (-1) }) ⟨hd.fs, hd.key, ⟨by show -1 ≤ max k (-1); omega, by show max k (-1) ≤ 1000000; omega⟩, hd.rm, hd.used, hd.few, hd.firm⟩) ⟨rfl, rfl⟩
def rdE (d : DK) (n : List UInt8) : Int := if d.down then 9 else if lkL d.fs n = none then 6 else 0
def rdB (d : DK) (n : List UInt8) : List UInt8 := if d.down then [] else ((lkL d.fs n).map (·.1)).getD []
set_option maxHeartbeats 2000000 in
theorem Read_spec (p : Nat) (d : DK) (n : List UInt8) (M : Nat → Option Obj) (L : List HP) :
    CallsS Tryz.prog 17 [ptrD p, str n] (diskH p d :: roM M :: L) (fun r L' => ∃ v M', r = .tuple #[YB.val v, .int .i64 (rdE d n)] ∧ v.bs = rdB d n ∧ okYM M' v ∧ v.bs.length ≤ v.c ∧ leM M M' ∧ L' = diskH p d :: roM M' :: L) := by
  refine calls_disk fun mp ts hd => ?_
  refine CallsS.of_body Tryz.func17 rfl rfl rfl ?_
  refine Q.r ?_; (repeat (intro b1; refine Q.r ?_))
  refine S.cr rfl (DUp_spec p mp d _) ?_
  rintro _ _ ⟨rfl, rfl⟩
  unfold rdE rdB
  cases hdn : d.down with
  | true =>
    refine Q.r ?_; (repeat (intro b1; refine Q.r ?_))
    exact N.r2 (RV.tmp rfl (RV.tmp rfl RV.nil)) (Ent.trans (M := dP p mp d :: dM mp ts :: fsH ts :: roM M :: L) (by repeat (first | exact Ent.refl _ | exact Ent.nil | refine Ent.pick ?_ | refine Ent.nilS ?_ | refine Ent.nilM ?_ | refine Ent.drop ?_)) (disk_shut hd)) ⟨⟨none, 0, []⟩, M, rfl, rfl, SlM.nil, Nat.le_refl _, leM.refl _, rfl⟩
  | false =>
    refine Q.r ?_; (repeat (intro b1; refine Q.r ?_))
    refine S.y (Y.lk false rfl rfl (fun w => Tryz.zeroValue82 w)) ?_
    rw [lk_fs hd.fs]
    cases hz : lkL (α := Nat × FV) ts n with
    | none =>
      dsimp only
      refine Q.r ?_; (repeat (intro b1; refine Q.r ?_))
      exact N.r2 (RV.tmp rfl (RV.tmp rfl RV.nil)) (Ent.trans (M := dP p mp d :: dM mp ts :: fsH ts :: roM M :: L) (by repeat (first | exact Ent.refl _ | exact Ent.nil | refine Ent.pick ?_ | refine Ent.nilS ?_ | refine Ent.nilM ?_ | refine Ent.drop ?_)) (disk_shut hd)) ⟨⟨none, 0, []⟩, M, rfl, rfl, SlM.nil, Nat.le_refl _, leM.refl _, rfl⟩
    | some u =>
      dsimp only
      refine Q.r ?_; (repeat (intro b1; refine Q.r ?_))
      refine S.y (Y.lk false rfl rfl (fun w => Tryz.zeroValue82 w)) ?_
      rw [hz]
      dsimp only [cond_false]
      obtain ⟨k, hkk⟩ := lk_ix hz
      refine opsS_fs hkk ?_
      obtain ⟨ub, ua, uc, ubs, ufirm⟩ := u
      refine opsS_sl ua (fun hl ha hc => ?_)
      have hul : ubs.length ≤ 1048576 := by
        have h1 := hd.used
        have h2 := hd.rm
        have h3 : ubs.length ≤ usedD d.fs := by
          rw [← used_ts hd]
          exact sum_mem (List.mem_map_of_mem (f := fun u : DE => u.2.2.bs.length) (List.mem_of_getElem? hkk))
        omega
      refine Q.r ?_; (repeat (intro b1; refine Q.r ?_))
      refine S.cr rfl (Clone_spec ua uc ubs M _ _ (RdS.ofS (by simp) ha) (by omega)) ?_
      rintro _ _ ⟨v, M', rfl, hv, hvo, hvc, hl', rfl⟩
      refine Q.r ?_; (repeat (intro b1; refine Q.r ?_))
      refine N.r2 (RV.tmp rfl (RV.tmp rfl RV.nil)) ?_ ⟨v, M', rfl, hv, hvo, by rw [hv]; exact hvc, hl', rfl⟩
      exact Ent.trans (M := oneP (ub, (⟨ua, uc, ubs, ufirm⟩ : FV)) :: oneS (ub, (⟨ua, uc, ubs, ufirm⟩ : FV)) :: fsH (ts.eraseIdx k) :: dP p mp d :: dM mp ts :: roM M' :: L) (by repeat (first | exact Ent.refl _ | exact Ent.nil | refine Ent.pick ?_ | refine Ent.nilS ?_ | refine Ent.nilM ?_ | refine Ent.drop ?_)) (Ent.trans (fs_back hkk) (Ent.trans (M := dP p mp d :: dM mp ts :: fsH ts :: roM M' :: L) (by repeat (first | exact Ent.refl _ | exact Ent.nil | refine Ent.pick ?_ | refine Ent.nilS ?_ | refine Ent.nilM ?_ | refine Ent.drop ?_)) (disk_shut hd)))
end Go.Proofs.YtkleenllkjodoaaGreatDoor
namespace Go.SX
open Go
section
variable {P : Program} {n : Nat} {ops : List Oper} {Q : Post} {f : Env} {A L : List HP} {E cs σ : List Nat} {listed : Array Bool}
theorem one_ofA {i : Nat} {o : Oper} {F : List HP} {a : Act} {w : World} {k : Nat} (hi : ops[i]? = some o) (ok : okOps n ops = true) (s : Sim n a f) (t : St w (L ++ (A ++ F))) (hsh : shut ops.toArray (listed.setIfInBounds i true))
    (h : oneS P n ops o (fun f L2 => ∃ L', Ent L2 (L' ++ A) ∧ anyS P n ops Q cs A k (listed.setIfInBounds i true) true f L') f (L ++ A)) :
    wpOp P ops.toArray (lift n F Q) i (fun a w => until_ cs (fun w => ∃ L, St w (L ++ (A ++ F))) (listed.setIfInBounds i true) w ∧ anyI P ops.toArray (lift n F Q) (until_ cs fun w => ∃ L, St w (L ++ (A ++ F))) k (listed.setIfInBounds i true) a w) a w := by
  have h2 := h (by simpa [okOps] using okOps_at ok hi) F a w s (by simpa using t)
  simp only [wpList] at h2
  unfold wpOp
  have hi' : ops.toArray[i]? = some o := by simpa using hi
  simp only [hi']
  have key : ∀ a w, lift n F (fun e f L2 => match e with | .normal => ∃ L', Ent L2 (L' ++ A) ∧ anyS P n ops Q cs A k (listed.setIfInBounds i true) true f L' | _ => False) .normal a w →
      until_ cs (fun w => ∃ L, St w (L ++ (A ++ F))) (listed.setIfInBounds i true) w ∧ anyI P ops.toArray (lift n F Q) (until_ cs fun w => ∃ L, St w (L ++ (A ++ F))) k (listed.setIfInBounds i true) a w := by
    rintro a w ⟨f, L2, s, t, L', he, q⟩
    have t3 := he w F t
    exact ⟨.inr ⟨L', by simpa using t3⟩, q ok F a w s hsh (by simpa using t3) (fun h => by cases h)⟩
  by_cases hw : Region.wanted o (yielded ops.toArray a.tmps) = true
  · rw [if_pos hw] at h2 ⊢
    refine .inl ?_
    rcases h2 with h2 | ⟨_, a', w', f, L, _, _, q⟩
    · unfold Oper.wp at h2 ⊢
      generalize (execOp a.eval o).run P w = r at *
      cases r with
      | ok m w' =>
        cases m <;> simp only [Oper.upon] at h2 ⊢ <;> first
          | exact key _ _ h2
          | exact h2
          | (refine Calls.mono h2 fun e w'' he => ?_
             cases e with
             | returned u => exact key _ _ he
             | panicked c => obtain ⟨_, _, _, _, q⟩ := he; exact q.elim
             | outgrown => obtain ⟨_, _, _, _, _, _, q⟩ := he; exact q.elim)
          | exact Rows.mono h2 fun _ _ he => key _ _ he
      | halt x w' => cases x <;> simp only [Oper.upon] at h2 ⊢ <;> first | exact h2 | (obtain ⟨_, _, _, _, q⟩ := h2; exact q.elim)
    · exact q.elim
  · rw [if_neg hw] at h2 ⊢
    exact key _ _ h2
theorem A.oneA (i : Nat) {k : Nat} {o : Oper} (hr : Region.ready .any ops.toArray listed = [i]) (hi : ops[i]? = some o)
    (h : oneS P n ops o (fun f L2 => ∃ L', Ent L2 (L' ++ A) ∧ anyS P n ops Q cs A k (listed.setIfInBounds i true) true f L') f (L ++ A)) : anyS P n ops Q cs A (k + 1) listed true f L := by
  intro ok F a w s hsh t hh
  refine ⟨fun h0 => (by rw [h0] at hr; cases hr), fun j hj => ?_⟩
  have hri : i ∈ Region.ready .any ops.toArray listed := by rw [hr]; simp
  rw [hr] at hj
  obtain rfl : j = i := by simpa using hj
  exact one_ofA hi ok s (by simpa using t) (hsh.set hri) h
class AppL (A L : List HP) (L2 : outParam (List HP)) : Prop where
  eq : A ++ L = L2
instance AppL.nil {L : List HP} : AppL [] L L := ⟨rfl⟩
instance AppL.cons {x : HP} {A L L2 : List HP} [h : AppL A L L2] : AppL (x :: A) L (x :: L2) := ⟨congrArg (List.cons x) h.eq⟩
theorem D.ea {i : Nat} {o : Oper} {L2 : List HP} [hL : AppL A L L2] (hi : ops[i]? = some o) (h9 : Nat.beq i 99999 = false) (hE : E.contains i = true)
    (h : opsS P n ops [o] (thenS (fun f L2 => ∃ L', Ent L2 (A ++ L') ∧ drawS P n ops E cs A σ Q (listed.setIfInBounds i true) true f L') (fun _ _ _ => False)) f L2) : drawS P n ops E cs A (i :: σ) Q listed true f L := by
  intro ho hs hQ
  simp only [ordOK, h9, hE, cond_true, cond_false, Bool.and_eq_true, beq_iff_eq] at ho
  refine _root_.Go.SX.A.oneA i ho.1 hi (opsS_ent (Ent.perm (List.perm_append_comm.trans (hL.eq ▸ List.Perm.refl _))) fun ok F a w s t => wpList_mono (h ok F a w s t) ?_)
  rintro e a w ⟨f, L, s, t, q⟩
  cases e <;> first | exact q.elim | (obtain ⟨L', he, q⟩ := q; exact ⟨f, L, s, t, L', he.trans (Ent.perm List.perm_append_comm), q ho.2 hs hQ⟩)
class PickL (A L : List HP) (L' : outParam (List HP)) : Prop where
  ent : Ent L (A ++ L')
instance PickL.nil {L : List HP} : PickL [] L L := ⟨Ent.refl _⟩
instance PickL.cons {x : HP} {A L L1 L' : List HP} [h1 : Pick x L L1] [h2 : PickL A L1 L'] : PickL (x :: A) L L' := ⟨h1.ent.trans h2.ent.cons⟩
theorem D.back {L' : List HP} [h : PickL A L L'] (hk : drawS P n ops E cs A σ Q listed true f L') : ∃ L', Ent L (A ++ L') ∧ drawS P n ops E cs A σ Q listed true f L' := ⟨L', h.ent, hk⟩
end
end Go.SX
